/- addr.Split. -/
import Derived.Test.YthajagmccaaanaaGreatDoorPlace
import Derived.Test.YthajagmccaaanaaGreatDoorSplitLaw
import Derived.Deep.LoopGhost
namespace Go.Proofs.YthajagmccaaanaaGreatDoor
open Go.RowKit

/-- A builder of the call's own (block w.heap.size) in which acc has been written. -/
def Bld (w : World) (acc : Bs) (wr : World) : Prop :=
  Lib.IsBuilderF 129 5 w.heap.size w.heap.size (Lib.byteCells acc) wr ∧ Below w.heap.size w wr ∧ w.heap.size < wr.heap.size

theorem Bld.start (w : World) : Bld w [] (w.alloc (.cells #[.pointer none, .slice none 0 0] 129)) :=
  ⟨Lib.IsBuilderF.of (Lib.fresh_isBuilder 129 5 w), (Below.refl _ w).alloc (Nat.le_refl _) _, by simp⟩
theorem Bld.write {w wr : World} {acc : Bs} (h : Bld w acc wr) (hl : acc.length ≤ 140737488351232) (x : UInt8) :
    Calls Tryz.prog 91 #[.pointer (some ⟨w.heap.size, 0, none⟩), .int .u8 x.toNat] wr fun e w' => e = .returned .nilIface ∧ Bld w (acc ++ [x]) w' := by
  obtain ⟨h4, h5, h6⟩ := h
  refine (writeByte_k w.heap.size w.heap.size (Lib.byteCells acc) _ wr h4 (by rw [Lib.byteCells_length]; omega) (by omega)).mono ?_
  rintro e w' ⟨rfl, k1, k2, k3⟩
  exact ⟨rfl, by rw [Lib.byteCells_append]; exact Or.inr k1, h5.trans k2, by have := k2.size; omega⟩
theorem Bld.string {w wr : World} {acc : Bs} (h : Bld w acc wr) :
    Calls Tryz.prog 92 #[.pointer (some ⟨w.heap.size, 0, none⟩)] wr fun e w' => e = .returned (.string ⟨acc.toArray⟩) ∧ Below w.heap.size w w' := by
  obtain ⟨h4, h5, h6⟩ := h
  refine (Tryz.Builder_String_any_k w.heap.size w.heap.size acc wr h4 (by omega)).mono ?_
  rintro e w' ⟨rfl, k1, k2, k3⟩
  exact ⟨rfl, h5.trans k2⟩

theorem drop_at (s : ByteArray) (j : Nat) (h : j < s.size) : s.data.toList.drop j = s[j] :: s.data.toList.drop (j + 1) := by
  rw [List.drop_eq_getElem_cons (by simpa using h)]
  rfl

/-- What is to come at place j, acc being written. -/
def Spl (s : ByteArray) (i : Nat) (c : UInt8) (j : Nat) (acc : Bs) : Prop :=
  acc.length ≤ j ∧ splitL c (s.data.toList.drop i) = (acc ++ (splitL c (s.data.toList.drop j)).1, (j - i) + (splitL c (s.data.toList.drop j)).2) ∧ i ≤ j
theorem Spl.start (s : ByteArray) (i : Nat) (c : UInt8) : Spl s i c i [] := ⟨Nat.zero_le _, by simp, Nat.le_refl _⟩
theorem Spl.esc1 {s : ByteArray} {i j : Nat} {c : UInt8} {acc : Bs} (h : Spl s i c j acc) (h1 : j + 1 < s.size) (h2 : s[j] = 92) (h3 : s[j + 1] = c) : Spl s i c (j + 2) (acc ++ [s[j + 1]]) := by
  obtain ⟨ha, hb, hc⟩ := h
  rw [drop_at s j (by omega), drop_at s (j + 1) h1, h2, splitL_esc, if_pos h3] at hb
  refine ⟨by simp; omega, ?_, by omega⟩
  rw [hb, show j + 2 = j + 1 + 1 from rfl]
  simp only [List.append_assoc, Prod.mk.injEq, true_and]
  omega
theorem Spl.esc2 {s : ByteArray} {i j : Nat} {c : UInt8} {acc : Bs} (h : Spl s i c j acc) (h1 : j + 1 < s.size) (h2 : s[j] = 92) (h3 : s[j + 1] ≠ c) : Spl s i c (j + 2) (acc ++ [92] ++ [s[j + 1]]) := by
  obtain ⟨ha, hb, hc⟩ := h
  rw [drop_at s j (by omega), drop_at s (j + 1) h1, h2, splitL_esc, if_neg h3] at hb
  refine ⟨by simp; omega, ?_, by omega⟩
  rw [hb, show j + 2 = j + 1 + 1 from rfl]
  simp only [List.append_assoc, List.cons_append, List.nil_append, Prod.mk.injEq, true_and]
  omega
theorem Spl.sign {s : ByteArray} {i j : Nat} {c : UInt8} {acc : Bs} (h : Spl s i c j acc) (h1 : j < s.size) (h2 : ¬ (s[j] = 92 ∧ j + 1 < s.size)) (h3 : s[j] = c) : splitL c (s.data.toList.drop i) = (acc, j - i + 1) := by
  obtain ⟨ha, hb, hc⟩ := h
  rw [drop_at s j h1, h3, splitL_sign c _ (fun e => by
    have : ¬ j + 1 < s.size := fun c' => h2 ⟨by rw [h3, e], c'⟩
    simp; omega)] at hb
  rw [hb]; simp
theorem Spl.other {s : ByteArray} {i j : Nat} {c : UInt8} {acc : Bs} (h : Spl s i c j acc) (h1 : j < s.size) (h2 : ¬ (s[j] = 92 ∧ j + 1 < s.size)) (h3 : s[j] ≠ c) : Spl s i c (j + 1) (acc ++ [s[j]]) := by
  obtain ⟨ha, hb, hc⟩ := h
  rw [drop_at s j h1, splitL_other c _ _ (fun e => by
    have : ¬ j + 1 < s.size := fun c' => h2 ⟨e, c'⟩
    simp; omega) h3] at hb
  refine ⟨by simp; omega, ?_, by omega⟩
  rw [hb]
  simp; omega
theorem Spl.done {s : ByteArray} {i j : Nat} {c : UInt8} {acc : Bs} (h : Spl s i c j acc) (h1 : ¬ j < s.size) (hj : j ≤ s.size) : splitL c (s.data.toList.drop i) = (acc, s.size - i) := by
  obtain ⟨ha, hb, hc⟩ := h
  rw [List.drop_of_length_le (l := s.data.toList) (i := j) (by simp; omega), splitL_nil] at hb
  rw [hb]; simp; omega

theorem split_end {x : Bs × Nat} {acc : Bs} {m i : Nat} {v : Int} (h : x = (acc, m)) (hv : v = ((i + m : Nat) : Int)) :
    Ending.returned (.tuple #[.string ⟨acc.toArray⟩, .int .i64 v]) = .returned (.tuple #[.string ⟨x.1.toArray⟩, .int .i64 ((i + x.2 : Nat))]) := by rw [h, hv]

set_option maxHeartbeats 2000000 in
theorem split_any (s : ByteArray) (i : Nat) (c : UInt8) (w : World) (hi : i ≤ s.size) (hs : s.size ≤ 140737488351232) :
    Calls Tryz.prog 75 #[.string s, .int .i64 i, .int .u8 c.toNat] w fun e w' =>
      e = .returned (.tuple #[.string ⟨(splitL c (s.data.toList.drop i)).1.toArray⟩, .int .i64 ((i + (splitL c (s.data.toList.drop i)).2 : Nat))]) ∧ Below w.heap.size w w' := by
  go_enter Tryz.func75, Tryz.ntmps75
  go_wp2
  go_loopg [9] s.size (fun g p wr => ∃ (j : Nat) (acc : Bs), p = .int .i64 j ∧ s.size ≤ g + j ∧ j ≤ s.size ∧ Spl s i c j acc ∧ Bld w acc wr)
  case atStart => exact ⟨i, [], rfl, by omega, hi, Spl.start s i c, Bld.start w⟩
  case round =>
    obtain ⟨j, acc, rfl, hg, hj, hsp, hbl⟩ := hrel
    have hl1 := hsp.1
    by_cases hlt : j < s.size
    · by_cases hesc : s[j] = 92 ∧ j + 1 < s.size
      · obtain ⟨h92, hlt1⟩ := hesc
        have e1 : ((s[j].toNat : Int) == 92) = true := by rw [h92]; rfl
        by_cases hcy : s[j + 1] = c
        · have e2 : ((s[j + 1].toNat : Int) != (c.toNat : Int)) = false := by rw [hcy]; simp
          have hsp1 := hsp.esc1 hlt1 h92 hcy
          clear hcy h92
          go_wp2_with (go_at_call 91; refine (hbl.write (by omega) _).mono ?_; rintro e w1 ⟨rfl, hb1⟩)
          go_roundg (gk - 2)
          case measure => omega
          case rel => exact ⟨j + 2, _, by go_num, by omega, by omega, hsp1, hb1⟩
        · have e2 : ((s[j + 1].toNat : Int) != (c.toNat : Int)) = true := by
            rw [bne_iff_ne]
            intro c'
            exact hcy (UInt8.toNat_inj.1 (by omega))
          have hsp1 := hsp.esc2 hlt1 h92 hcy
          clear hcy h92
          go_wp2_with fail
          refine (hbl.write (by omega) 92).mono ?_
          rintro e w1 ⟨rfl, hb1⟩
          go_wp2_with fail
          refine (hb1.write (by simp; omega) _).mono ?_
          rintro e w2 ⟨rfl, hb2⟩
          go_wp2_with fail
          go_roundg (gk - 2)
          case measure => omega
          case rel => exact ⟨j + 2, _, by go_num, by omega, by omega, hsp1, hb2⟩
      · by_cases hcx : s[j] = c
        · have HR := Lib.hid (hsp.sign hlt hesc hcx)
          have e2 : ((s[j].toNat : Int) == (c.toNat : Int)) = true := by rw [hcx]; simp
          have hij := hsp.2.2
          clear hcx
          by_cases h92 : s[j] = 92
          · have e1 : ((s[j].toNat : Int) == 92) = true := by rw [h92]; rfl
            have hge : ¬ j + 1 < s.size := fun c' => hesc ⟨h92, c'⟩
            clear h92 hesc
            go_wp2_with (go_at_call 92; refine hbl.string.mono ?_; rintro e w1 ⟨rfl, hb1⟩)
            go_ret2
            exact ⟨split_end HR.out (by omega), hb1⟩
          · have e1 : ((s[j].toNat : Int) == 92) = false := by
              rw [beq_eq_false_iff_ne]
              intro c'
              exact h92 (UInt8.toNat_inj.1 (by show _ = 92; omega))
            clear h92 hesc
            go_wp2_with (go_at_call 92; refine hbl.string.mono ?_; rintro e w1 ⟨rfl, hb1⟩)
            go_ret2
            exact ⟨split_end HR.out (by omega), hb1⟩
        · have hsp1 := hsp.other hlt hesc hcx
          have e2 : ((s[j].toNat : Int) == (c.toNat : Int)) = false := by
            rw [beq_eq_false_iff_ne]
            intro c'
            exact hcx (UInt8.toNat_inj.1 (by omega))
          clear hcx
          by_cases h92 : s[j] = 92
          · have e1 : ((s[j].toNat : Int) == 92) = true := by rw [h92]; rfl
            have hge : ¬ j + 1 < s.size := fun c' => hesc ⟨h92, c'⟩
            clear h92 hesc
            go_wp2_with (go_at_call 91; refine (hbl.write (by omega) _).mono ?_; rintro e w1 ⟨rfl, hb1⟩)
            go_roundg (gk - 1)
            case measure => omega
            case rel => exact ⟨j + 1, _, by go_num, by omega, by omega, hsp1, hb1⟩
          · have e1 : ((s[j].toNat : Int) == 92) = false := by
              rw [beq_eq_false_iff_ne]
              intro c'
              exact h92 (UInt8.toNat_inj.1 (by show _ = 92; omega))
            clear h92 hesc
            go_wp2_with (go_at_call 91; refine (hbl.write (by omega) _).mono ?_; rintro e w1 ⟨rfl, hb1⟩)
            go_roundg (gk - 1)
            case measure => omega
            case rel => exact ⟨j + 1, _, by go_num, by omega, by omega, hsp1, hb1⟩
    · have HR := Lib.hid (hsp.done hlt hj)
      have hij := hsp.2.2
      go_wp2_with (go_at_call 92; refine hbl.string.mono ?_; rintro e w1 ⟨rfl, hb1⟩)
      go_ret2
      exact ⟨split_end HR.out (by omega), hb1⟩
end Go.Proofs.YthajagmccaaanaaGreatDoor
