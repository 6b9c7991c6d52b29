/- cmd.cutLeft, for a set of one byte. -/
import Derived.Test.YthajagmccaaanaaGreatDoorWords
import Derived.LoopN
namespace Go.Proofs.YthajagmccaaanaaGreatDoor
open Go.RowKit

def cutL (x : UInt8) (l : Bs) : Bs := l.dropWhile (· == x)
theorem cutL_at (x : UInt8) (l : Bs) : ∀ k, k ≤ l.length → (∀ j (h : j < l.length), j < k → l[j] = x) → (∀ h : k < l.length, l[k] ≠ x) → l.drop k = cutL x l := by
  induction l with
  | nil => intro k _ _ _; simp [cutL]
  | cons y l ih =>
    intro k hk h1 h2
    unfold cutL
    rw [List.dropWhile_cons]
    cases k with
    | zero =>
      have := h2 (by simp)
      simp at this
      simp [this]
    | succ k =>
      have h0 := h1 0 (by simp) (by omega)
      simp at h0
      rw [if_pos (by simp [h0])]
      rw [List.drop_succ_cons]
      refine ih k (by simpa using hk) (fun j hj hjk => ?_) (fun h => ?_)
      · have := h1 (j + 1) (by simp; omega) (by omega)
        simpa using this
      · have := h2 (by simp; omega)
        simpa using this

theorem nx_end (P : Program) (wr : World) (k : Nat) (s : ByteArray) (pos : Nat) (h1 : wr.heap[k]? = some (.stringIter s pos)) (h2 : s.size ≤ pos) (ty : TypeId) : (Instr.next (.pointer (some ⟨k, 0, none⟩)) true ty).run P wr = .ok (.tuple #[.bool false]) wr :=
  Lib.run_next_end_at wr k s pos ty h1 (by omega)

theorem nx_one (P : Program) (x : UInt8) (hx : x.toNat < 128) (V : World) (ty : TypeId) : (Instr.next (.pointer (some ⟨V.heap.size, 0, none⟩)) true ty).run P (V.iter ⟨#[x]⟩ 0) = .ok (.tuple #[.bool true, .int .i64 0, .int .i32 (x.toNat : Int)]) (V.iter ⟨#[x]⟩ 1) :=
  run_next_ascii (P := P) V ⟨#[x]⟩ 0 ty Nat.zero_lt_one hx
theorem nx_two (P : Program) (x : UInt8) (V : World) (ty : TypeId) : (Instr.next (.pointer (some ⟨V.heap.size, 0, none⟩)) true ty).run P (V.iter ⟨#[x]⟩ 1) = .ok (.tuple #[.bool false]) (V.iter ⟨#[x]⟩ 1) :=
  run_next_end (P := P) V ⟨#[x]⟩ 1 ty (Nat.lt_irrefl 1)

set_option maxHeartbeats 4000000 in
theorem cutLeft_any (l : Bs) (x : UInt8) (hx : x.toNat < 128) (w : World) :
    Calls Tryz.prog 27 #[.string ⟨l.toArray⟩, .string ⟨#[x]⟩] w fun e w' => e = .returned (.string ⟨(cutL x l).toArray⟩) ∧ Below w.heap.size w w' := by
  go_enter Tryz.func27, Tryz.ntmps27
  go_wp2_with fail
  go_loopg [] (l.length + 1) (fun g wr => ∃ k : Nat, g + k = l.length + 1 ∧ k ≤ l.length ∧ (∀ j (h : j < l.length), j < k → l[j] = x) ∧ wr.heap[w.heap.size]? = some (.stringIter ⟨l.toArray⟩ k) ∧ Below w.heap.size w wr)
  case atStart => exact ⟨0, rfl, Nat.zero_le _, fun j _ h => absurd h (Nat.not_lt_zero _), blk_new _ _, (Below.refl _ w).alloc (Nat.le_refl _) _⟩
  case round =>
    obtain ⟨k, hg, hk, hall, hit, hB⟩ := hrel
    have hsz := lt_of_blk hit
    by_cases hkd : k < l.length
    · have hkd' : k < (⟨l.toArray⟩ : ByteArray).size := by simpa [ByteArray.size] using hkd
      have hnx : ∀ ty, (Instr.next (.pointer (some ⟨w.heap.size, 0, none⟩)) true ty).run Tryz.prog wr = _ := fun ty => Lib.run_next_any_at wr w.heap.size ⟨l.toArray⟩ k ty hit hkd'
      generalize hd : Utf8.decode ⟨l.toArray⟩ k = d at hnx
      obtain ⟨d1, d2⟩ := d
      have hit' := Lib.iterAt_heap wr w.heap.size ⟨l.toArray⟩ k (k + d2) hit
      have hB' := Lib.below_iterAt hB (k := w.heap.size) (Nat.le_refl _) ⟨l.toArray⟩ (k + d2)
      by_cases hlx : l[k] = x
      · have hdx : d1 = x.toNat ∧ d2 = 1 := by
          have hb : ((⟨l.toArray⟩ : ByteArray)[k]'hkd').toNat = x.toNat := by
            show (l.toArray[k]'(by simpa using hkd)).toNat = _
            rw [List.getElem_toArray, hlx]
          have := decode_ascii ⟨l.toArray⟩ k hkd' (by rw [hb]; exact hx)
          rw [hd, hb] at this
          simpa using this
        obtain ⟨rfl, rfl⟩ := hdx
        clear hd
        go_wp2_with fail
        refine wp_loop_rounds 2 ?_
        have n1 := nx_one Tryz.prog x hx
        rw [rounds_succ]
        go_wp2_with fail
        have n2 := nx_two Tryz.prog x
        rw [rounds_succ]
        go_wp2_with fail
        go_roundg (gk - 1)
        case measure => omega
        case rel =>
          refine ⟨k + 1, by omega, hkd, fun j h hj => ?_, ?_, ?_⟩
          · by_cases hjk : j = k
            · subst hjk; exact hlx
            · exact hall j h (by omega)
          · exact blk_alloc hit' _
          · exact hB'.alloc hB'.size _
      · have hne : ((d1 : Int) == (x.toNat : Int)) = false := by
          rw [beq_eq_false_iff_ne]
          intro he
          by_cases ha : ((⟨l.toArray⟩ : ByteArray)[k]'hkd').toNat < 128
          · have := decode_ascii ⟨l.toArray⟩ k hkd' ha
            rw [hd] at this
            have h1 := congrArg Prod.fst this
            simp only at h1
            have hb : ((⟨l.toArray⟩ : ByteArray)[k]'hkd') = l[k] := by
              show l.toArray[k]'(by simpa using hkd) = _
              rw [List.getElem_toArray]
            rw [hb] at h1
            exact hlx (UInt8.toNat_inj.1 (by omega))
          · have := (decode_high ⟨l.toArray⟩ k hkd' (by omega)).1
            rw [hd] at this
            simp only at this
            omega
        have HE := Lib.hid (cutL_at x l k hk hall (fun _ => hlx))
        clear hd hlx
        go_wp2_with fail
        refine wp_loop_rounds 2 ?_
        have n1 := nx_one Tryz.prog x hx
        rw [rounds_succ]
        go_wp2_with fail
        have n2 := nx_two Tryz.prog x
        rw [rounds_succ]
        go_wp2_with fail
        go_ret
        rw [ex_drop, HE.out]
        exact ⟨rfl, hB'.alloc hB'.size _⟩
    · have hnx := nx_end Tryz.prog wr _ _ _ hit (by simp [ByteArray.size]; omega)
      have HE := Lib.hid (cutL_at x l k hk hall (fun h => absurd h hkd))
      rw [List.drop_of_length_le (by omega)] at HE
      go_wp2_with fail
      go_ret
      rw [← HE.out]
      exact ⟨rfl, hB⟩
end Go.Proofs.YthajagmccaaanaaGreatDoor
