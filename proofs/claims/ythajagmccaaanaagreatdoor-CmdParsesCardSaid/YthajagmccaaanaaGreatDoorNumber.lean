/- addr.place.number: digits are read. -/
import Derived.Test.YthajagmccaaanaaGreatDoorPlace
import Derived.Test.YthajagmccaaanaaGreatDoorNums
import Derived.Deep.LoopGhost
namespace Go.Proofs.YthajagmccaaanaaGreatDoor
open Go.RowKit

def NumPost (b : Nat) (s : ByteArray) (i : Nat) (w : World) (e : Ending) (w' : World) : Prop :=
  match numL (s.data.toList.drop i) with
  | none => e = .returned (.tuple #[.int .i64 0, .bool false, .int .u16 141]) ∧ (∃ j, j ≤ s.size ∧ PL b s j w') ∧ Mod (· = b) w w'
  | some (n, is, r) => e = .returned (.tuple #[.int .i64 n, .bool is, .int .u16 0]) ∧ PL b s (s.size - r.length) w' ∧ Mod (· = b) w w'

theorem numPost_err {b : Nat} {s : ByteArray} {i j : Nat} {w w' : World} {l : Bs} (hl : s.data.toList.drop i = l) (h9 : 9 < (digs l).length) (hj : j ≤ s.size) (hp : PL b s j w') (hm : Mod (· = b) w w') :
    NumPost b s i w (.returned (.tuple #[.int .i64 0, .bool false, .int .u16 141])) w' := by
  unfold NumPost numL
  rw [hl, if_pos h9]
  exact ⟨rfl, ⟨j, hj, hp⟩, hm⟩
theorem numPost_ok {b : Nat} {s : ByteArray} {i k : Nat} {w w' : World} {l : Bs} {v : Int} {x : Bool} (hl : s.data.toList.drop i = l) (hi : i ≤ s.size) (hk : (digs l).length = k) (h9 : k ≤ 9) (hv : v = (val (l.take k) : Int)) (hx : x = decide (0 < k)) (hp : PL b s (i + k) w') (hm : Mod (· = b) w w') :
    NumPost b s i w (.returned (.tuple #[.int .i64 v, .bool x, .int .u16 0])) w' := by
  have hd := digs_le l
  have hll : l.length = s.size - i := by rw [← hl]; simp
  unfold NumPost numL
  rw [hl, if_neg (by omega)]
  refine ⟨?_, ?_, hm⟩
  · rw [← digs_take l, hk, hv, hx]
    simp
    omega
  · rw [List.length_drop, hk, show s.size - (l.length - k) = i + k by omega]
    exact hp

theorem nextB_at {s : ByteArray} {i k : Nat} (h : k < (s.data.toList.drop i).length) : nextB s (i + k) = (((s.data.toList.drop i)[k]).toNat : Int) := by
  have h' : i + k < s.size := by simpa [Nat.add_comm, Nat.lt_sub_iff_add_lt] using h
  unfold nextB
  rw [dif_pos h']
  simp [ByteArray.getElem_eq_getElem_data]
theorem nextB_end {s : ByteArray} {i k : Nat} (h : ¬ k < (s.data.toList.drop i).length) : nextB s (i + k) = 0 := by
  have h' : ¬ i + k < s.size := by
    intro c
    exact h (by simp; omega)
  unfold nextB
  rw [dif_neg h']
theorem dig_isDig (c : UInt8) : dig (c.toNat : Int) = isDig c := by
  unfold dig isDig
  congr 1
  simp; omega

set_option maxHeartbeats 1000000 in
theorem number_any (b : Nat) (s : ByteArray) (i : Nat) (w : World) (h : PL b s i w) (hi : i ≤ s.size) (hs : s.size ≤ 140737488351232) :
    Calls Tryz.prog 57 #[.pointer (some ⟨b, 0, none⟩)] w (NumPost b s i w) := by
  have c1 := h.c1
  have hlt := lt_of_blk h
  generalize hl : s.data.toList.drop i = l at *
  have hll : l.length = s.size - i := by rw [← hl]; simp
  go_enter Tryz.func57, Tryz.ntmps57
  go_wp2
  have HL := Lib.hid hl
  clear hl
  go_loopg [6] 10 (fun g n wr => ∃ k : Nat, g + k = 10 ∧ k ≤ (digs l).length ∧ k ≤ 9 ∧ n = .int .i64 (val (l.take k)) ∧ PL b s (i + k) wr ∧ Mod (· = b) w wr)
  case atStart => exact ⟨0, rfl, Nat.zero_le _, Nat.zero_le _, rfl, h, Mod.refl _ _⟩
  case round =>
    obtain ⟨k, hg, hk, hk9, rfl, hpl, hmod⟩ := hrel
    have hdl := digs_le l
    have hv := val_digs_lt l k hk hk9
    have c1 := hpl.c1
    have f1 := hpl.f1
    by_cases hc : ∃ h : k < l.length, isDig l[k] = true
    · obtain ⟨hkl, hd⟩ := hc
      have hs1 := digs_step l k hk hkl hd
      have hvt := Lib.hid (val_take l k hkl)
      have hkl' : k < (s.data.toList.drop i).length := by rw [HL.out]; exact hkl
      have hn0 := nextB_at hkl'
      have hn1 : ((s.data.toList.drop i)[k]'hkl').toNat = (l[k]'hkl).toNat := by simp only [HL.out]
      rw [hn1] at hn0
      clear hn1
      simp only [isDig, decide_eq_true_eq] at hd
      obtain ⟨d, hdd⟩ : ∃ d, (l[k]'hkl).toNat = d := ⟨_, rfl⟩
      rw [hdd] at hn0 hd
      obtain ⟨hd1, hd2⟩ := hd
      have HD := Lib.hid hdd
      have HN := Lib.hid hn0
      clear hdd hn0
      have hnx := fun w' (hw : PL b s (i + k) w') => next_any b s (i + k) w' hw (by omega)
      rw [HN.out] at hnx
      have hisd : dig (d : Int) = true := by unfold dig; simp; omega
      have c0 : (0 : Int) ≤ (d : Int) := by omega
      have c2 : (48 : Int) ≤ (d : Int) := by omega
      have c3 : (d : Int) ≤ 57 := by omega
      by_cases h9 : k = 9
      · have e9 : ((((i + k : Nat) : Int) - (i : Int)) == 9) = true := by rw [beq_iff_eq]; omega
        go_wp2_with (first | (go_at_call 25; refine (hnx _ (by exact hpl)).mono ?_; rintro e w1 ⟨rfl, n1, rfl⟩) | (go_at_call 60; refine (is_d _ _).mono ?_; rintro e w1 ⟨rfl, rfl⟩))
        go_ret3
        exact numPost_err HL.out (by omega) (by omega) hpl (hmod.drewN n1)
      · have e9 : ((((i + k : Nat) : Int) - (i : Int)) == 9) = false := by rw [beq_eq_false_iff_ne]; omega
        go_wp2_with (first | (go_at_call 25; refine (hnx _ (by exact hpl)).mono ?_; rintro e w1 ⟨rfl, n1, rfl⟩) | (go_at_call 60; refine (is_d _ _).mono ?_; rintro e w1 ⟨rfl, rfl⟩))
        go_roundg (gk - 1)
        case measure => omega
        case rel =>
          have e : ((i : Int) + k + 1) = ((i + (k + 1) : Nat) : Int) := by omega
          rw [e]
          refine ⟨k + 1, by omega, hs1, by omega, ?_, PL.set (i := i + k) hpl _, (hmod.drewN _).set1 1 _⟩
          have h1 := hvt.out
          rw [HD.out] at h1
          rw [h1]
          congr 1
          omega
    · have hst := digs_stop l k hk (fun h => by
        cases hb : isDig l[k]
        · rfl
        · exact absurd ⟨h, hb⟩ hc)
      obtain ⟨x, hx, hxd⟩ : ∃ x : Int, nextB s (i + k) = x ∧ dig x = false := by
        refine ⟨_, rfl, ?_⟩
        by_cases hkl : k < l.length
        · have hkl' : k < (s.data.toList.drop i).length := by rw [HL.out]; exact hkl
          rw [nextB_at hkl', dig_isDig]
          simp only [HL.out]
          cases hb : isDig l[k]
          · rfl
          · exact absurd ⟨hkl, hb⟩ hc
        · rw [nextB_end (by rw [HL.out]; exact hkl)]
          rfl
      have hnx := fun w' (hw : PL b s (i + k) w') => next_any b s (i + k) w' hw (by omega)
      rw [hx] at hnx
      clear hx hc
      have HS := Lib.hid hst
      clear hst
      go_wp2_with (first | (go_at_call 25; refine (hnx _ (by exact hpl)).mono ?_; rintro e w1 ⟨rfl, n1, rfl⟩) | (go_at_call 60; refine (is_d _ _).mono ?_; rintro e w1 ⟨rfl, rfl⟩))
      go_quiet (fail)
      go_wp2_with fail
      go_ret3
      exact numPost_ok HL.out hi HS.out hk9 rfl (by rw [decide_eq_decide]; omega) hpl ((hmod.drewN _).drewN _)
end Go.Proofs.YthajagmccaaanaaGreatDoor
