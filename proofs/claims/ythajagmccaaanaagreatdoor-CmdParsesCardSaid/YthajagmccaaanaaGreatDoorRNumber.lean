/- emendatorref14.Reader.number: digits are read. -/
import Derived.Test.YthajagmccaaanaaGreatDoorRPlace
namespace Go.Proofs.YthajagmccaaanaaGreatDoor
open Go.RowKit

theorem drop_get (s : ByteArray) (i k : Nat) (h : i + k < s.size) (h' : k < (s.data.toList.drop i).length) : (s.data.toList.drop i)[k]'h' = s[i + k] := by
  rw [List.getElem_drop]
  rfl

/-- What a call of number leaves. -/
def RNumPost (b : Nat) (s : ByteArray) (i : Nat) (w : World) (e : Ending) (w' : World) : Prop :=
  ∃ v : Int, e = .returned (.tuple #[.int .i64 v, .int .i64 ((digs (s.data.toList.drop i)).length : Int)]) ∧ ((digs (s.data.toList.drop i)).length ≤ 9 → v = (val (digs (s.data.toList.drop i)) : Int)) ∧
    RP b s (i + (digs (s.data.toList.drop i)).length) w' ∧ Mod (· = b) w w'

theorem rnum_post {b : Nat} {s : ByteArray} {i k : Nat} {w w' : World} {l : Bs} (hl : s.data.toList.drop i = l) (hk : (digs l).length = k) (hr : RP b s (i + k) w') (hm : Mod (· = b) w w') {e : Ending}
    (he : e = .returned (.tuple #[.int .i64 ((val (l.take (min k 10)) : Nat) : Int), .int .i64 (k : Int)])) : RNumPost b s i w e w' := by
  subst he
  unfold RNumPost
  rw [hl, hk]
  refine ⟨_, rfl, fun h9 => ?_, hr, hm⟩
  rw [Nat.min_eq_left (by omega), ← hk, digs_take]

set_option maxRecDepth 100000 in
set_option maxHeartbeats 2000000 in
theorem r_number (b : Nat) (s : ByteArray) (i : Nat) (w : World) (h : RP b s i w) (hi : i ≤ s.size) (hs : s.size ≤ 1000000) :
    Calls Tryz.prog 71 #[.pointer (some ⟨b, 0, none⟩)] w (RNumPost b s i w) := by
  obtain ⟨l, hl⟩ : ∃ l, s.data.toList.drop i = l := ⟨_, rfl⟩
  have hll : l.length = s.size - i := by rw [← hl]; simp
  have HL := Lib.hid hl
  clear hl
  go_enter Tryz.func71, Tryz.ntmps71
  go_wp2_with fail
  go_loopg [4, 5] (s.size + 1) (fun g n kk wr => ∃ k : Nat, s.size + 1 ≤ g + (i + k) ∧ i + k ≤ s.size ∧ k ≤ (digs l).length ∧ n = .int .i64 ((val (l.take (min k 10)) : Nat) : Int) ∧ kk = .int .i64 (k : Int) ∧ RP b s (i + k) wr ∧ Mod (· = b) w wr)
  case atStart => exact ⟨0, by omega, by omega, Nat.zero_le _, rfl, rfl, h, Mod.refl _ _⟩
  case round =>
    obtain ⟨k, hgk, hk, hkd, rfl, rfl, hrp, hm⟩ := hrel
    obtain ⟨p, hpk⟩ : ∃ p, i + k = p := ⟨_, rfl⟩
    rw [hpk] at hgk hk hrp
    have hiq : i ≤ p := by omega
    have hkq : k = p - i := by omega
    have c0 := hrp.c0
    have c1 := hrp.c1
    have hltb := lt_of_blk hrp
    by_cases hlt : p < s.size
    · have hkl : k < l.length := by omega
      have hget : l[k] = s[p] := by
        have := drop_get s i k (by omega) (by rw [HL.out]; exact hkl)
        simp only [HL.out, hpk] at this
        exact this
      have hcall := fun V => ris_d8 s[p] V
      have HP := Lib.hid hpk
      have HK := Lib.hid hkq
      clear hpk hkq
      cases hbk : isDig s[p] with
      | true =>
        have hs1 := digs_step l k hkd hkl (by rw [hget]; exact hbk)
        rw [hbk] at hcall
        simp only [isDig, decide_eq_true_eq] at hbk
        obtain ⟨hd1, hd2⟩ := hbk
        have hd1' : (48 : Int) ≤ (s[p].toNat : Int) := by omega
        have hd2' : (s[p].toNat : Int) ≤ 57 := by omega
        by_cases h10 : k < 10
        · have hv := val_digs_lt l k hkd (by omega)
          have hvt := val_take l k hkl
          rw [hget] at hvt
          have hmin : min k 10 = k := by omega
          rw [hmin]
          have HV := Lib.hid hvt
          clear hvt hget hmin
          generalize val (l.take k) = x at hv HV ⊢
          go_wp2_with fail
          refine wp_region_after_all (by kernel_rfl) (by kernel_rfl) ?_
          repeat (go_big_quiet_step ((go_at_call 41; exact After.calls_eq (hcall _))))
          refine wpQuiet_nil ?_
          intro _ hu
          obtain ⟨u, hu'⟩ := hu
          subst hu'
          have hr2 : RP b s p u.w := u.get hrp
          have hm2 : Mod (· = b) w u.w := hm.trans u.h.widen
          have c0 := hr2.c0
          have c1 := hr2.c1
          generalize u.w = w2 at *
          have hltb2 := lt_of_blk hr2
          go_wp2_with fail
          refine wp_region_after_all (by kernel_rfl) (by kernel_rfl) ?_
          repeat (go_big_quiet_step ((fail)))
          refine wpQuiet_nil ?_
          intro _ hu
          obtain ⟨u, hu'⟩ := hu
          subst hu'
          have hr3 : RP b s p u.w := u.get hr2
          have hm3 : Mod (· = b) w u.w := hm2.trans u.h.widen
          have c0 := hr3.c0
          have c1 := hr3.c1
          have f1 := hr3.f1
          go_wp2_with fail
          go_roundg (gk - 1)
          case measure => omega
          case rel =>
            have hp := HP.out
            refine ⟨k + 1, by omega, by omega, hs1, ?_, by go_num, ?_, hm3.set1 1 _⟩
            · rw [Nat.min_eq_left (by omega), HV.out]
              exact congrArg _ (by omega)
            · rw [show i + (k + 1) = p + 1 by omega]
              exact hr3.setI (by omega)
        · clear hget
          have h10' : min k 10 = 10 := by omega
          rw [h10']
          have hk10 : (10 : Int) ≤ (k : Int) := by omega
          go_wp2_with fail
          refine wp_region_after_all (by kernel_rfl) (by kernel_rfl) ?_
          repeat (go_big_quiet_step ((go_at_call 41; exact After.calls_eq (hcall _))))
          refine wpQuiet_nil ?_
          intro _ hu
          obtain ⟨u, hu'⟩ := hu
          subst hu'
          have hr2 : RP b s p u.w := u.get hrp
          have hm2 : Mod (· = b) w u.w := hm.trans u.h.widen
          have c0 := hr2.c0
          have c1 := hr2.c1
          have f1 := hr2.f1
          go_wp2_with fail
          go_roundg (gk - 1)
          case measure => omega
          case rel =>
            have hp := HP.out
            refine ⟨k + 1, by omega, by omega, hs1, ?_, by go_num, ?_, hm2.set1 1 _⟩
            · rw [show min (k + 1) 10 = 10 by omega]
            · rw [show i + (k + 1) = p + 1 by omega]
              exact hr2.setI (by omega)
      | false =>
        have hst := digs_stop l k hkd (fun _ => by rw [hget]; exact hbk)
        rw [hbk] at hcall
        have HS := Lib.hid hst
        clear hst hbk hget
        go_wp2_with fail
        refine wp_region_after_all (by kernel_rfl) (by kernel_rfl) ?_
        repeat (go_big_quiet_step ((go_at_call 41; exact After.calls_eq (hcall _))))
        refine wpQuiet_nil ?_
        intro _ hu
        obtain ⟨u, hu'⟩ := hu
        subst hu'
        have hr2 : RP b s p u.w := u.get hrp
        have hm2 : Mod (· = b) w u.w := hm.trans u.h.widen
        rw [← HP.out] at hr2
        go_wp2_with fail
        go_ret2
        exact rnum_post HL.out HS.out hr2 hm2 rfl
    · have hst := digs_stop l k hkd (fun h => absurd h (by omega))
      have HS := Lib.hid hst
      have HP := Lib.hid hpk
      clear hst hpk hkq
      go_wp2_with fail
      refine wp_region_after_all (by kernel_rfl) (by kernel_rfl) ?_
      repeat (go_big_quiet_step ((fail)))
      refine wpQuiet_nil ?_
      intro _ hu
      obtain ⟨u, hu'⟩ := hu
      subst hu'
      have hr2 : RP b s p u.w := u.get hrp
      have hm2 : Mod (· = b) w u.w := hm.trans u.h.widen
      rw [← HP.out] at hr2
      go_wp2_with fail
      go_ret2
      exact rnum_post HL.out HS.out hr2 hm2 rfl
end Go.Proofs.YthajagmccaaanaaGreatDoor
