/- emendatorref14.Reader: where one stands in a text. -/
import Derived.Test.YthajagmccaaanaaGreatDoorRSplit
import Derived.Test.YthajagmccaaanaaGreatDoorNumber
namespace Go.Proofs.YthajagmccaaanaaGreatDoor
open Go.RowKit

/-- A place in block b. -/
def RP (b : Nat) (s : ByteArray) (i : Nat) (w : World) : Prop := w.heap[b]? = some (.cells #[.string s, .int .i64 i] 71 (0, 0))

theorem RP.c0 {b : Nat} {s : ByteArray} {i : Nat} {w : World} (h : RP b s i w) : w.cell? ⟨b, 0, none⟩ = some (.string s) := by rw [Lib.cell_of_heap h]; rfl
theorem RP.c1 {b : Nat} {s : ByteArray} {i : Nat} {w : World} (h : RP b s i w) : w.cell? ⟨b, 1, none⟩ = some (.int .i64 i) := by rw [Lib.cell_of_heap h]; rfl
theorem RP.f1 {b : Nat} {s : ByteArray} {i : Nat} {w : World} (h : RP b s i w) : w.frozen? ⟨b, 1, none⟩ = false := Lib.frozen_of_heap h 1
theorem RP.set {b : Nat} {s : ByteArray} {i : Nat} {w : World} (h : RP b s i w) (j : Nat) : RP b s j (w.setCell ⟨b, 1, none⟩ (.int .i64 j)) := blk_setCell h 1 _
theorem RP.setI {b : Nat} {s : ByteArray} {i : Nat} {w : World} (h : RP b s i w) {v : Int} {j : Nat} (hv : v = (j : Int)) : RP b s j (w.setCell ⟨b, 1, none⟩ (.int .i64 v)) := by
  subst hv
  exact blk_setCell h 1 _
theorem RP.mod {S : Nat → Prop} {b : Nat} {s : ByteArray} {i : Nat} {w w' : World} (h : RP b s i w) (hm : Mod S w w') (hs : ¬ S b) : RP b s i w' := hm.get h hs

/-- Does a byte stand at a place? -/
def isAt (s : ByteArray) (i : Nat) (c : Int) : Bool := if h : i < s.size then (s[i].toNat : Int) == c else false

set_option maxRecDepth 100000 in
set_option maxHeartbeats 1000000 in
theorem r_is (b : Nat) (s : ByteArray) (i : Nat) (c : Int) (w : World) (h : RP b s i w) (hi : i ≤ s.size) :
    Calls Tryz.prog 42 #[.pointer (some ⟨b, 0, none⟩), .int .u8 c] w fun e w' => e = .returned (.bool (isAt s i c)) ∧ ∃ n, w' = w.drewN n := by
  have c0 := h.c0
  have c1 := h.c1
  have hltb := lt_of_blk h
  by_cases hlt : i < s.size
  · have hn : isAt s i c = ((s[i].toNat : Int) == c) := by unfold isAt; rw [dif_pos hlt]
    go_enter Tryz.func42, Tryz.ntmps42
    go_wp2_with fail
    go_quiet (fail)
    go_wp2_with fail
    go_ret
    exact ⟨ret_bool hn.symm, _, rfl⟩
  · have hn : isAt s i c = false := by unfold isAt; rw [dif_neg hlt]
    go_enter Tryz.func42, Tryz.ntmps42
    go_wp2_with fail
    go_quiet (fail)
    go_wp2_with fail
    go_ret
    exact ⟨ret_bool hn.symm, _, rfl⟩

theorem ris_s8 (x : UInt8) (w : World) : Calls Tryz.prog 41 #[.int .u8 115, .int .u8 (x.toNat : Int)] w fun e w' => e = .returned (.bool (blk (x.toNat : Int))) ∧ w' = w := ris_s _ (by omega) (by have := x.toNat_lt; omega) w
theorem ris_d8 (x : UInt8) (w : World) : Calls Tryz.prog 41 #[.int .u8 100, .int .u8 (x.toNat : Int)] w fun e w' => e = .returned (.bool (isDig x)) ∧ w' = w := by
  have := ris_d (x.toNat : Int) (by omega) (by have := x.toNat_lt; omega) w
  rw [dig_isDig] at this
  exact this
theorem blanks_blk {s : ByteArray} {k : Nat} (h : k < s.size) (hb : blk (s[k].toNat : Int) = true) : blanks (s.data.toList.drop k) = blanks (s.data.toList.drop (k + 1)) := by
  rw [drop_at s k h]
  unfold blanks Lib.trimLeftS
  rw [List.dropWhile_cons, if_pos]
  simp only [blk, decide_eq_true_eq] at hb
  simp only [List.contains_cons, List.contains_nil, Bool.or_false, Bool.or_eq_true, beq_iff_eq]
  rcases hb with hb | hb
  · exact .inl (UInt8.toNat_inj.1 (by show _ = 32; omega))
  · exact .inr (UInt8.toNat_inj.1 (by show _ = 9; omega))
theorem blanks_not {s : ByteArray} {k : Nat} (h : k < s.size) (hb : blk (s[k].toNat : Int) = false) : blanks (s.data.toList.drop k) = s.data.toList.drop k := by
  rw [drop_at s k h]
  simp only [blk, decide_eq_false_iff_not, not_or] at hb
  unfold blanks Lib.trimLeftS
  rw [List.dropWhile_cons, if_neg]
  simp only [List.contains_cons, List.contains_nil, Bool.or_false, Bool.or_eq_true, beq_iff_eq, not_or]
  exact ⟨fun e => hb.1 (by rw [e]; rfl), fun e => hb.2 (by rw [e]; rfl)⟩

set_option maxRecDepth 100000 in
set_option maxHeartbeats 1000000 in
theorem r_blanks (b : Nat) (s : ByteArray) (i : Nat) (w : World) (h : RP b s i w) (hi : i ≤ s.size) (hs : s.size ≤ 1000000) :
    Calls Tryz.prog 43 #[.pointer (some ⟨b, 0, none⟩)] w fun e w' => e = .returned (.tuple #[]) ∧
      RP b s (s.size - (blanks (s.data.toList.drop i)).length) w' ∧ Mod (· = b) w w' := by
  go_enter Tryz.func43, Tryz.ntmps43
  go_wp2_with fail
  go_loopg [] (s.size + 1) (fun g wr => ∃ k, s.size + 1 ≤ g + k ∧ k ≤ s.size ∧ blanks (s.data.toList.drop k) = blanks (s.data.toList.drop i) ∧ RP b s k wr ∧ Mod (· = b) w wr)
  case atStart => exact ⟨i, by omega, hi, rfl, h, Mod.refl _ _⟩
  case round =>
    obtain ⟨k, hgk, hk, hbl, hrp, hm⟩ := hrel
    have c0 := hrp.c0
    have c1 := hrp.c1
    have hltb := lt_of_blk hrp
    by_cases hlt : k < s.size
    · have hcall := fun V => ris_s8 s[k] V
      cases hbk : blk (s[k].toNat : Int) with
      | true =>
        have hst := Lib.hid ((blanks_blk hlt hbk).symm.trans hbl)
        rw [hbk] at hcall
        clear hbl hbk
        go_wp2_with fail
        refine wp_region_after_all (by kernel_rfl) (by kernel_rfl) ?_
        repeat (go_big_quiet_step ((go_at_call 41; exact After.calls_eq (hcall _))))
        refine wpQuiet_nil ?_
        intro _ hu
        obtain ⟨u, hu'⟩ := hu
        subst hu'
        have hr2 : RP b s k u.w := u.get hrp
        have hm2 : Mod (· = b) w u.w := hm.trans u.h.widen
        have c0 := hr2.c0
        have c1 := hr2.c1
        have f1 := hr2.f1
        go_wp2_with fail
        go_roundg (gk - 1)
        case measure => omega
        case rel => exact ⟨k + 1, by omega, by omega, hst.out, hr2.setI (by omega), hm2.set1 1 _⟩
      | false =>
        have hst := Lib.hid ((blanks_not hlt hbk).symm.trans hbl)
        rw [hbk] at hcall
        clear hbl hbk
        go_wp2_with fail
        refine wp_region_after_all (by kernel_rfl) (by kernel_rfl) ?_
        repeat (go_big_quiet_step ((go_at_call 41; exact After.calls_eq (hcall _))))
        refine wpQuiet_nil ?_
        intro _ hu
        obtain ⟨u, hu'⟩ := hu
        subst hu'
        have hr2 : RP b s k u.w := u.get hrp
        have hm2 : Mod (· = b) w u.w := hm.trans u.h.widen
        go_wp2_with fail
        go_end0
        rw [← hst.out, List.length_drop]
        refine ⟨rfl, ?_, hm2⟩
        rw [show s.size - (s.data.toList.length - k) = k by simp; omega]
        exact hr2
    · have hst := Lib.hid hbl
      clear hbl
      go_wp2_with fail
      refine wp_region_after_all (by kernel_rfl) (by kernel_rfl) ?_
      repeat (go_big_quiet_step ((fail)))
      refine wpQuiet_nil ?_
      intro _ hu
      obtain ⟨u, hu'⟩ := hu
      subst hu'
      have hr2 : RP b s k u.w := u.get hrp
      have hm2 : Mod (· = b) w u.w := hm.trans u.h.widen
      go_wp2_with fail
      go_end0
      refine ⟨rfl, ?_, hm2⟩
      obtain rfl : k = s.size := by omega
      rw [← hst.out, List.drop_of_length_le (by simp)]
      exact hr2
end Go.Proofs.YthajagmccaaanaaGreatDoor
