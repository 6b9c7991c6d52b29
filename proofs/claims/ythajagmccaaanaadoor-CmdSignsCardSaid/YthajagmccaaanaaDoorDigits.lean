/- emendatorlaw15.digits: a number's digits. -/
import Derived.Test.YthajagmccaaanaaDoorSignLaw
import Derived.Test.YthajagmccaaanaaDoorSame
import Derived.Test.YthajagmccaaanaaDoorFit
import Derived.Laws.IdiomStrings
namespace Go.Proofs.YthajagmccaaanaaDoor
open Go.RowKit

theorem conv_one (w : World) (x : UInt8) (v : Int) (hv : v = (x.toNat : Int)) :
    (convert 24 9 (.slice (some ⟨w.heap.size, 0, none⟩) 1 1)).run Tryd.prog (w.alloc (.cells #[.int .u8 v] 5 (0, 0))) = .ok (.string ⟨#[x]⟩) (w.alloc (.cells #[.int .u8 v] 5 (0, 0))) := by
  subst hv
  refine run_convert_bytes_back _ 24 9 5 ⟨w.heap.size, 0, none⟩ 1 [x] (by kernel_rfl) (by kernel_rfl) (by kernel_rfl) (fun j hj => ?_)
  have hj0 : j = 0 := by simpa using hj
  subst hj0
  show (w.alloc (.cells #[.int .u8 (x.toNat : Int)] 5 (0, 0))).cell? ⟨w.heap.size, 0, none⟩ = _
  rw [Lib.cell_of_heap (blk_new _ _)]
  rfl

theorem ret_str {a b : Bs} (h : a = b) : Ending.returned (.string ⟨a.toArray⟩) = .returned (.string ⟨b.toArray⟩) := by rw [h]
set_option maxRecDepth 100000 in
set_option maxHeartbeats 4000000 in
theorem digits_any : ∀ (n : Nat) (w : World), n < 1000000000 → Calls Tryd.prog 12 #[.int .i64 n] w fun e w' => e = .returned (.string ⟨(digL n).toArray⟩) ∧ Below w.heap.size w w' := by
  intro n
  induction n using Nat.strongRecOn with
  | ind n ih =>
    intro w hn
    by_cases h10 : n < 10
    · obtain ⟨x, hx⟩ : ∃ x : UInt8, x = UInt8.ofNat (48 + n) := ⟨_, rfl⟩
      have hv : (48 + (n : Int)) = (x.toNat : Int) := by rw [hx, UInt8.toNat_ofNat_of_lt' (by show _ < 256; omega)]; omega
      have hd : digL n = [x] := by rw [digL_small h10, hx]
      rw [hd]
      clear hd hx
      have HV := Lib.hid hv
      clear hv
      go_enter Tryd.func12, Tryd.ntmps12
      go_wp2_with fail
      rw [conv_one w x (48 + (n : Int)) HV.out]
      simp only [Result.andThen]
      rw [Oper.upon_value]
      go_wp2_with fail
      go_ret
      exact ⟨rfl, (Below.refl _ w).alloc (Nat.le_refl _) _⟩
    · have h1 := ih (n / 10) (by omega)
      have h2 := ih (n % 10) (by omega)
      have hl1 := digL_len 8 (n / 10) (by omega)
      have hl2 := digL_len 8 (n % 10) (by omega)
      rw [digL_big h10, ← digL_small (n := n % 10) (by omega)]
      go_enter Tryd.func12, Tryd.ntmps12
      go_wp2_with fail
      have e1 : ((n : Int) / 10) = ((n / 10 : Nat) : Int) := by omega
      rw [e1]
      clear e1
      refine (h1 w (by omega)).mono ?_
      rintro e w1 ⟨rfl, hb1⟩
      go_wp2_with fail
      have e2 : ((n : Int) % 10) = ((n % 10 : Nat) : Int) := by omega
      rw [e2]
      clear e2
      refine (h2 w1 (by omega)).mono ?_
      rintro e w2 ⟨rfl, hb2⟩
      go_wp2_with fail
      go_ret
      refine ⟨?_, hb1.trans (hb2.mono hb1.size)⟩
      rw [← ByteArray.mk_append_mk]
      rfl
end Go.Proofs.YthajagmccaaanaaDoor
