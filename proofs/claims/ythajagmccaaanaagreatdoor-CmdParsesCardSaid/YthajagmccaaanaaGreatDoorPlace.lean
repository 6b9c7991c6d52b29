/- addr.place: where one stands in a text. -/
import Derived.Test.YthajagmccaaanaaGreatDoorStr
import Derived.Test.YthajagmccaaanaaGreatDoorKind
import Derived.Test.YthajagmccaaanaaGreatDoorSpec
import Derived.Test.YthajagmccaaanaaGreatDoorOrd
import Derived.Deep.RegionHeld3
import Derived.BigQuiet
import Derived.Outline
import Derived.Deep.DeepCutAuto
namespace Go.Proofs.YthajagmccaaanaaGreatDoor
open Go.RowKit

/-- A place in block b. -/
def PL (b : Nat) (s : ByteArray) (i : Nat) (w : World) : Prop := w.heap[b]? = some (.cells #[.string s, .int .i64 i] 54 (0, 0))

theorem PL.c0 {b : Nat} {s : ByteArray} {i : Nat} {w : World} (h : PL b s i w) : w.cell? ⟨b, 0, none⟩ = some (.string s) := by rw [Lib.cell_of_heap h]; rfl
theorem PL.c1 {b : Nat} {s : ByteArray} {i : Nat} {w : World} (h : PL b s i w) : w.cell? ⟨b, 1, none⟩ = some (.int .i64 i) := by rw [Lib.cell_of_heap h]; rfl
theorem PL.f1 {b : Nat} {s : ByteArray} {i : Nat} {w : World} (h : PL b s i w) : w.frozen? ⟨b, 1, none⟩ = false := Lib.frozen_of_heap h 1
theorem PL.setI {b : Nat} {s : ByteArray} {i : Nat} {w : World} (h : PL b s i w) {v : Int} {j : Nat} (hv : v = (j : Int)) : PL b s j (w.setCell ⟨b, 1, none⟩ (.int .i64 v)) := by
  subst hv
  exact blk_setCell h 1 _
theorem PL.set {b : Nat} {s : ByteArray} {i : Nat} {w : World} (h : PL b s i w) (j : Nat) : PL b s j (w.setCell ⟨b, 1, none⟩ (.int .i64 j)) := blk_setCell h 1 _

/-- The byte that stands at a place; 0: none does. -/
def nextB (s : ByteArray) (i : Nat) : Int := if h : i < s.size then (s[i].toNat : Int) else 0

set_option maxHeartbeats 400000 in
theorem next_any (b : Nat) (s : ByteArray) (i : Nat) (w : World) (h : PL b s i w) (hi : i ≤ s.size) :
    Calls Tryz.prog 25 #[.pointer (some ⟨b, 0, none⟩)] w fun e w' => e = .returned (.int .u8 (nextB s i)) ∧ ∃ n, w' = w.drewN n := by
  have c0 := h.c0
  have c1 := h.c1
  by_cases hlt : i < s.size
  · have hn : nextB s i = (s[i].toNat : Int) := by unfold nextB; rw [dif_pos hlt]
    have e1 : ((i : Int) == (s.size : Int)) = false := by rw [beq_eq_false_iff_ne]; omega
    go_enter Tryz.func25, Tryz.ntmps25
    go_wp2
    go_quiet (fail)
    go_wp2
    go_quiet (fail)
    go_wp2
    go_ret
    exact ⟨ret_int hn.symm, _, World.drewN_drewN _ _ _⟩
  · have hn : nextB s i = 0 := by unfold nextB; rw [dif_neg hlt]
    have e1 : ((i : Int) == (s.size : Int)) = true := by rw [beq_iff_eq]; omega
    go_enter Tryz.func25, Tryz.ntmps25
    go_wp2
    go_quiet (fail)
    go_wp2
    go_ret
    exact ⟨ret_int hn.symm, _, rfl⟩

theorem trimLeft_le (l cs : List UInt8) : (Lib.trimLeftS l cs).length ≤ l.length := (List.dropWhile_sublist _).length_le

set_option maxHeartbeats 400000 in
theorem pass_any (b : Nat) (s cs : ByteArray) (i : Nat) (w : World) (h : PL b s i w) (hi : i ≤ s.size) (hs : s.size ≤ 140737488351232) (h1 : cs.size < 4294967281) (h2 : cs.data.toList.all (fun b => decide (b.toNat < 128)) = true) :
    Calls Tryz.prog 24 #[.pointer (some ⟨b, 0, none⟩), .string cs] w fun e w' => e = .returned (.tuple #[]) ∧
      PL b s (s.size - (Lib.trimLeftS (s.data.toList.drop i) cs.data.toList).length) w' ∧ Mod (· = b) w w' := by
  have c0 := h.c0
  have c1 := h.c1
  have f1 := h.f1
  have hlt := lt_of_blk h
  go_enter Tryz.func24, Tryz.ntmps24
  go_wp2
  refine wp_region_after [0, 1, 2, 3, 4, 5, 6, 7, 8, 9, 10, 11, 12, 13, 14, 15, 16, 17, 18, 19, 20] [21] (by kernel_rfl) (by kernel_rfl) (by intro c a d v w h; first | exact h | (delta Exit.then at h ⊢; exact h) | (dsimp +zetaDelta only [Exit.then, Exit.inBlock, Exit.noGoto, bodyPost, put_def] at h ⊢; exact h) | (simp +zetaDelta only at h ⊢; exact h) | (simp +zetaDelta only [bodyPost, put_def] at h ⊢; exact h) | (simp +zetaDelta only [Exit.then, Exit.inBlock, Exit.noGoto, bodyPost, put_def] at h ⊢; exact h)) ?_
  simp only [picks_nil, picks_cons, List.getD_cons_zero, List.getD_cons_succ]
  repeat (go_big_quiet_step ((go_at_call 40; exact After.calls_below (trim_any _ cs _ h1 h2))))
  refine wpQuiet_nil ?_
  intro _ hu
  obtain ⟨u, hu'⟩ := hu
  subst hu'
  go_wp2
  go_end0
  have e : wrap64 ((s.size : Int) - ((Lib.trimLeftS (List.take (s.size - i) (List.drop i s.data.toList)) cs.data.toList).length : Int)) = ((s.size - (Lib.trimLeftS (s.data.toList.drop i) cs.data.toList).length : Nat) : Int) := by
    rw [List.take_of_length_le (by simp)]
    have hle := trimLeft_le (s.data.toList.drop i) cs.data.toList
    simp only [List.length_drop, Array.length_toList, ByteArray.size_data] at hle
    unfold wrap64
    omega
  rw [e]
  exact ⟨rfl, (show PL b s i u.w from u.get h).set _, u.h.widen.set1 1 _⟩
end Go.Proofs.YthajagmccaaanaaGreatDoor
