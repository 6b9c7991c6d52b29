/- emendatorref14.Reader.base. -/
import Derived.Test.YthajagmccaaanaaGreatDoorRNumber
import Derived.Test.YthajagmccaaanaaGreatDoorOne
namespace Go.Proofs.YthajagmccaaanaaGreatDoor
open Go.RowKit

def RBasePost (b : Nat) (s : ByteArray) (i : Nat) (w : World) (e : Ending) (w' : World) : Prop :=
  match baseL (s.data.toList.drop i) with
  | none => (∃ a, e = .returned (.tuple #[adV a, .bool false, .int .i64 141])) ∧ Mod (· = b) w w'
  | some (a, is, r) => e = .returned (.tuple #[adV a, .bool is, .int .i64 0]) ∧ RP b s (s.size - r.length) w' ∧ Mod (· = b) w w'
theorem rbase_none {b : Nat} {s : ByteArray} {i : Nat} {w w' : World} (a : Ad) {v : Value} (h : baseL (s.data.toList.drop i) = none) (hv : v = adV a) (hm : Mod (· = b) w w') :
    RBasePost b s i w (.returned (.tuple #[v, .bool false, .int .i64 141])) w' := by
  unfold RBasePost
  rw [h, hv]
  exact ⟨⟨a, rfl⟩, hm⟩
theorem rbase_some {b : Nat} {s : ByteArray} {i j : Nat} {w w' : World} {a : Ad} {is : Bool} {r : Bs} {v : Value} (h : baseL (s.data.toList.drop i) = some (a, is, r)) (hv : v = adV a) (hj : s.size - r.length = j) (hp : RP b s j w') (hm : Mod (· = b) w w') :
    RBasePost b s i w (.returned (.tuple #[v, .bool is, .int .i64 0])) w' := by
  unfold RBasePost
  rw [h, hv]
  subst hj
  exact ⟨rfl, hp, hm⟩

theorem rsplit_at (s : ByteArray) (i : Nat) (c : UInt8) (v x : Int) (w : World) (hv : v = (i : Int)) (hx : x = (c.toNat : Int)) (hi : i ≤ s.size) (hs : s.size ≤ 1000000) :
    Calls Tryz.prog 88 #[.string s, .int .i64 v, .int .u8 x] w fun e w' =>
      e = .returned (.tuple #[.string ⟨(splitL c (s.data.toList.drop i)).1.toArray⟩, .int .i64 ((i + (splitL c (s.data.toList.drop i)).2 : Nat))]) ∧ Below w.heap.size w w' := by
  subst hv; subst hx
  exact rsplit_any s i c w hi hs

set_option maxRecDepth 100000 in
set_option maxHeartbeats 4000000 in
theorem rbase_any (b : Nat) (s : ByteArray) (i : Nat) (w : World) (h : RP b s i w) (hi : i ≤ s.size) (hs : s.size ≤ 1000000) :
    Calls Tryz.prog 70 #[.pointer (some ⟨b, 0, none⟩)] w (RBasePost b s i w) := by
  have hlt := lt_of_blk h
  go_enter Tryz.func70, Tryz.ntmps70
  go_wp2_with fail
  refine (r_number b s i _ (blk_alloc h _) hi hs).mono ?_
  rintro e w1 ⟨v, rfl, hv, hrp, hm⟩
  have hblk := hm.get (blk_new _ _) (by omega)
  obtain ⟨g0, g1, g2, g3, g4, g5⟩ := six_frozen hblk
  obtain ⟨d0, d1, d2, d3, d4, d5⟩ := six_cells hblk
  have hm0 : Mod (· = b) w w1 := ((Mod.refl _ w).alloc _).trans hm
  have hne : b ≠ w.heap.size := by omega
  have hsz : w.heap.size < w1.heap.size := lt_of_blk (hm.get (blk_new _ _) (by omega))
  clear hm
  obtain ⟨K, hK⟩ : ∃ K, (digs (s.data.toList.drop i)).length = K := ⟨_, rfl⟩
  rw [hK] at hv hrp ⊢
  by_cases h9 : 9 < K
  · have hbn : baseL (s.data.toList.drop i) = none := by unfold baseL numL; rw [hK, if_pos h9]
    have HB := Lib.hid hbn
    clear hbn hv hK
    go_wp2_with fail
    refine bodyPost_ret (results_ad rfl rfl (blk_set6 hblk _ _ _ _ _ _)) rfl ?_
    exact rbase_none ⟨0, 0, 0, [], 0, false⟩ HB.out rfl (by repeat' (first | with_reducible exact hm0 | with_reducible refine Mod.set6 ?_ (.inr ?_) _ _ _ _ _ _ | with_reducible refine Mod.drewN ?_ _ | with_reducible refine Mod.drew ?_ | with_reducible refine Mod.set1 ?_ _ _ | with_reducible refine Mod.alloc ?_ _ | omega | with_reducible refine Mod.setCell ?_ (.inr ?_) _ | (dsimp only; omega)))
  have hv := hv (by omega)
  by_cases h0 : 0 < K
  · have hbn : baseL (s.data.toList.drop i) = some (⟨1, v, 0, [], 0, false⟩, true, (s.data.toList.drop i).drop K) := by unfold baseL numL; rw [hK, if_neg h9, decide_eq_true h0, hv]
    have HB := Lib.hid hbn
    have hKl := digs_le (s.data.toList.drop i)
    rw [hK] at hKl
    simp only [List.length_drop, Array.length_toList, ByteArray.size_data] at hKl
    clear hbn hv hK
    go_wp2_with fail
    refine bodyPost_ret (results_ad rfl rfl (blk_set6 hblk _ _ _ _ _ _)) rfl ?_
    exact rbase_some (j := i + K) HB.out rfl (by simp; omega) (blk_set6_ne hrp hne _ _ _ _ _ _) (by repeat' (first | with_reducible exact hm0 | with_reducible refine Mod.set6 ?_ (.inr ?_) _ _ _ _ _ _ | with_reducible refine Mod.drewN ?_ _ | with_reducible refine Mod.drew ?_ | with_reducible refine Mod.set1 ?_ _ _ | with_reducible refine Mod.alloc ?_ _ | omega | with_reducible refine Mod.setCell ?_ (.inr ?_) _ | (dsimp only; omega)))
  obtain rfl : K = 0 := by omega
  have hnum : numL (s.data.toList.drop i) = some (val [], false, s.data.toList.drop i) := by
    unfold numL
    rw [hK, if_neg (by omega), List.length_eq_zero_iff.1 hK]
    rfl
  clear hv h9 h0 hK
  rw [Nat.add_zero] at hrp
  have c0 := hrp.c0
  have c1 := hrp.c1
  have f1 := hrp.f1
  have hltb := lt_of_blk hrp
  by_cases hlt2 : i < s.size
  · have hd := drop_at s i hlt2
    have HD := Lib.hid hd
    have HN := Lib.hid hnum
    clear hd hnum
    go_wp2_with fail
    refine wp_region_after_all (by kernel_rfl) (by kernel_rfl) ?_
    repeat (go_big_quiet_step ((fail)))
    refine wpQuiet_nil ?_
    intro _ hu
    obtain ⟨u, hu'⟩ := hu
    subst hu'
    have hr2 : RP b s i u.w := u.get hrp
    have hb2 := u.get hblk
    have hm2 : Mod (· = b) w u.w := hm0.trans u.h.widen
    have hsz2 := u.h.size
    clear hrp hblk hm0 g0 g1 g2 g3 g4 g5 d0 d1 d2 d3 d4 d5 c0 c1 f1 hltb
    generalize u.w = w2 at *
    have c0 := hr2.c0
    have c1 := hr2.c1
    have hltb := lt_of_blk hr2
    go_wp2_with fail
    refine wp_region_after_all (by kernel_rfl) (by kernel_rfl) ?_
    repeat (go_big_quiet_step ((fail)))
    refine wpQuiet_nil ?_
    intro _ hu
    obtain ⟨u, hu'⟩ := hu
    subst hu'
    have hr3 : RP b s i u.w := u.get hr2
    have hb3 := u.get hb2
    have hm3 : Mod (· = b) w u.w := hm2.trans u.h.widen
    have hsz3 := u.h.size
    clear hr2 hb2 hm2 c0 c1 hltb
    generalize u.w = w3 at *
    have c0 := hr3.c0
    have c1 := hr3.c1
    have f1 := hr3.f1
    have hltb := lt_of_blk hr3
    have hltc := lt_of_blk hb3
    obtain ⟨g0, g1, g2, g3, g4, g5⟩ := six_frozen hb3
    obtain ⟨d0, d1, d2, d3, d4, d5⟩ := six_cells hb3
    by_cases hx46 : s[i] = 46
    · have hbn : baseL (s.data.toList.drop i) = some (⟨2, 0, 0, [], 0, false⟩, true, s.data.toList.drop (i + 1)) := by unfold baseL; rw [HN.out, HD.out, hx46]; simp
      have HB := Lib.hid hbn
      have hxn : ((s[i].toNat : Int) == 46) = true := by rw [hx46]; rfl
      clear hbn hx46
      go_wp2_with fail
      refine bodyPost_ret (results_ad rfl rfl (blk_set6 (blk_setCell_ne hb3 (Ne.symm hne) 1 _) _ _ _ _ _ _)) rfl ?_
      exact rbase_some (j := i + 1) HB.out rfl (by simp; omega) (blk_set6_ne (RP.setI hr3 (by omega)) hne _ _ _ _ _ _) (by repeat' (first | with_reducible exact hm3 | with_reducible refine Mod.set6 ?_ (.inr ?_) _ _ _ _ _ _ | with_reducible refine Mod.drewN ?_ _ | with_reducible refine Mod.drew ?_ | with_reducible refine Mod.set1 ?_ _ _ | with_reducible refine Mod.alloc ?_ _ | omega | with_reducible refine Mod.setCell ?_ (.inr ?_) _ | (dsimp only; omega)))
    have x46 : ((s[i].toNat : Int) == 46) = false := by
      rw [beq_eq_false_iff_ne]
      intro c
      exact hx46 (UInt8.toNat_inj.1 (by show _ = 46; omega))
    by_cases hx36 : s[i] = 36
    · have hbn : baseL (s.data.toList.drop i) = some (⟨3, 0, 0, [], 0, false⟩, true, s.data.toList.drop (i + 1)) := by unfold baseL; rw [HN.out, HD.out, hx36]; simp
      have HB := Lib.hid hbn
      have hxn : ((s[i].toNat : Int) == 36) = true := by rw [hx36]; rfl
      clear hbn hx36
      go_wp2_with fail
      refine bodyPost_ret (results_ad rfl rfl (blk_set6 (blk_setCell_ne hb3 (Ne.symm hne) 1 _) _ _ _ _ _ _)) rfl ?_
      exact rbase_some (j := i + 1) HB.out rfl (by simp; omega) (blk_set6_ne (RP.setI hr3 (by omega)) hne _ _ _ _ _ _) (by repeat' (first | with_reducible exact hm3 | with_reducible refine Mod.set6 ?_ (.inr ?_) _ _ _ _ _ _ | with_reducible refine Mod.drewN ?_ _ | with_reducible refine Mod.drew ?_ | with_reducible refine Mod.set1 ?_ _ _ | with_reducible refine Mod.alloc ?_ _ | omega | with_reducible refine Mod.setCell ?_ (.inr ?_) _ | (dsimp only; omega)))
    have x36 : ((s[i].toNat : Int) == 36) = false := by
      rw [beq_eq_false_iff_ne]
      intro c
      exact hx36 (UInt8.toNat_inj.1 (by show _ = 36; omega))
    by_cases hx39 : s[i] = 39
    · have hxn : ((s[i].toNat : Int) == 39) = true := by rw [hx39]; rfl
      by_cases hlt3 : i + 1 < s.size
      · have hd2 := drop_at s (i + 1) hlt3
        have hbn : baseL (s.data.toList.drop i) = some (⟨4, 0, s[i + 1], [], 0, false⟩, true, s.data.toList.drop (i + 2)) := by unfold baseL; rw [HN.out, HD.out, hx39, hd2]; simp
        have HB := Lib.hid hbn
        clear hbn hx39 hd2
        go_wp2_with fail
        refine wp_region_after_all (by kernel_rfl) (by kernel_rfl) ?_
        repeat (go_big_quiet_step ((fail)))
        refine wpQuiet_nil ?_
        intro _ hu
        obtain ⟨u, hu'⟩ := hu
        subst hu'
        have hr4 : RP b s i u.w := u.get hr3
        have hb4 := u.get hb3
        have hm4 : Mod (· = b) w u.w := hm3.trans u.h.widen
        clear hr3 hb3 hm3 g0 g1 g2 g3 g4 g5 d0 d1 d2 d3 d4 d5 c0 c1 f1 hltb hltc
        generalize u.w = w4 at *
        have c0 := hr4.c0
        have c1 := hr4.c1
        have f1 := hr4.f1
        have hltb := lt_of_blk hr4
        have hltc := lt_of_blk hb4
        obtain ⟨g0, g1, g2, g3, g4, g5⟩ := six_frozen hb4
        obtain ⟨d0, d1, d2, d3, d4, d5⟩ := six_cells hb4
        have e2 : ((i : Int) + 2) = ((i + 2 : Nat) : Int) := by omega
        have E2 := Lib.hid e2
        clear e2
        go_wp2_with fail
        have k1 : IntKind.i64.wrap ((i : Int) + 2 - 1) = (i : Int) + 1 := by rw [IntWalk.i64_in _ (by omega)]; omega
        have k2 : (0 : Int) ≤ (i : Int) + 1 := by omega
        have k3 : ((i : Int) + 1).toNat = i + 1 := by omega
        have k4 : (i : Int) + 1 < (s.size : Int) := by omega
        refine wp_region_after [0, 1, 2, 3, 4, 5, 6, 7, 8, 9, 10] [11, 12, 13] (by kernel_rfl) (by kernel_rfl) (by intro c a d v w h; first | exact h | (delta Exit.then at h ⊢; exact h) | (dsimp +zetaDelta only [Exit.then, Exit.inBlock, Exit.noGoto, bodyPost, put_def] at h ⊢; exact h) | (simp +zetaDelta only at h ⊢; exact h) | (simp +zetaDelta only [bodyPost, put_def] at h ⊢; exact h) | (simp +zetaDelta only [Exit.then, Exit.inBlock, Exit.noGoto, bodyPost, put_def] at h ⊢; exact h)) ?_
        simp only [picks_nil, picks_cons, List.getD_cons_zero, List.getD_cons_succ]
        repeat (go_big_quiet_step ((fail)))
        refine wpQuiet_nil ?_
        intro _ hu
        obtain ⟨u, hu'⟩ := hu
        subst hu'
        clear k1
        go_wp2_with fail
        refine bodyPost_ret (results_ad rfl rfl (blk_set6 (u.get (blk_setCell_ne hb4 (Ne.symm hne) 1 _)) _ _ _ _ _ _)) rfl ?_
        exact rbase_some HB.out rfl (by simp; omega) (blk_set6_ne (o := .cells #[.string s, .int .i64 (i + 2 : Nat)] 71 (0, 0)) (u.get (RP.setI (i := i) hr4 E2.out)) hne _ _ _ _ _ _) (Mod.set6 (Mod.trans (hm4.set1 1 _) u.h.widen) (.inr (Nat.le_refl _)) _ _ _ _ _ _)
      · have hd2 : s.data.toList.drop (i + 1) = [] := by rw [List.drop_of_length_le (by simp; omega)]
        have hbn : baseL (s.data.toList.drop i) = none := by unfold baseL; rw [HN.out, HD.out, hx39, hd2]; simp
        have HB := Lib.hid hbn
        clear hbn hx39 hd2
        go_wp2_with fail
        refine wp_region_after_all (by kernel_rfl) (by kernel_rfl) ?_
        repeat (go_big_quiet_step ((fail)))
        refine wpQuiet_nil ?_
        intro _ hu
        obtain ⟨u, hu'⟩ := hu
        subst hu'
        have hb4 := u.get hb3
        have hm4 : Mod (· = b) w u.w := hm3.trans u.h.widen
        obtain ⟨g0, g1, g2, g3, g4, g5⟩ := six_frozen hb4
        obtain ⟨d0, d1, d2, d3, d4, d5⟩ := six_cells hb4
        go_wp2_with fail
        refine bodyPost_ret (results_ad rfl rfl (blk_set6 hb4 _ _ _ _ _ _)) rfl ?_
        exact rbase_none ⟨0, 0, 0, [], 0, false⟩ HB.out rfl (by repeat' (first | with_reducible exact hm4 | with_reducible refine Mod.set6 ?_ (.inr ?_) _ _ _ _ _ _ | with_reducible refine Mod.drewN ?_ _ | with_reducible refine Mod.drew ?_ | with_reducible refine Mod.set1 ?_ _ _ | with_reducible refine Mod.alloc ?_ _ | omega | with_reducible refine Mod.setCell ?_ (.inr ?_) _ | (dsimp only; omega)))
    have x39 : ((s[i].toNat : Int) == 39) = false := by
      rw [beq_eq_false_iff_ne]
      intro c
      exact hx39 (UInt8.toNat_inj.1 (by show _ = 39; omega))
    by_cases hx47 : s[i] = 47
    · have hbn : baseL (s.data.toList.drop i) = some (⟨5, 0, 0, (splitL 47 (s.data.toList.drop (i + 1))).1, 0, false⟩, true, (s.data.toList.drop (i + 1)).drop (splitL 47 (s.data.toList.drop (i + 1))).2) := by unfold baseL; rw [HN.out, HD.out, hx47]; simp
      have HB := Lib.hid hbn
      have hxn : ((s[i].toNat : Int) == 47) = true := by rw [hx47]; rfl
      have hxv : (s[i].toNat : Int) = ((47 : UInt8).toNat : Int) := by rw [hx47]
      have HX := Lib.hid hxv
      have hsl := splitL_len 47 _ (s.data.toList.drop (i + 1)) (Nat.le_refl _)
      clear hbn hx47 hxv
      go_wp2_with fail
      have k1 : IntKind.i64.wrap ((i : Int) + 1) = (i : Int) + 1 := by rw [IntWalk.i64_in _ (by omega)]
      refine wp_region_after_all (by kernel_rfl) (by kernel_rfl) ?_
      repeat (go_big_quiet_step ((go_at_call 88; exact After.calls_below (rsplit_at s (i + 1) 47 _ _ _ (by omega) HX.out (by omega) hs))))
      refine wpQuiet_nil ?_
      intro _ hu
      obtain ⟨u, hu'⟩ := hu
      subst hu'
      clear k1
      have hr4 : RP b s i u.w := u.get hr3
      have hb4 := u.get hb3
      have hm4 : Mod (· = b) w u.w := hm3.trans u.h.widen
      clear hr3 hb3 hm3 g0 g1 g2 g3 g4 g5 d0 d1 d2 d3 d4 d5 c0 c1 f1 hltb hltc
      generalize u.w = w4 at *
      have c0 := hr4.c0
      have c1 := hr4.c1
      have f1 := hr4.f1
      have hltb := lt_of_blk hr4
      have hltc := lt_of_blk hb4
      obtain ⟨g0, g1, g2, g3, g4, g5⟩ := six_frozen hb4
      obtain ⟨d0, d1, d2, d3, d4, d5⟩ := six_cells hb4
      go_wp2_with fail
      refine bodyPost_ret (results_ad rfl rfl (blk_set6 (blk_setCell_ne hb4 (Ne.symm hne) 1 _) _ _ _ _ _ _)) rfl ?_
      refine rbase_some (j := i + 1 + (splitL 47 (s.data.toList.drop (i + 1))).2) HB.out rfl ?_ (blk_set6_ne (RP.setI hr4 (by simp)) hne _ _ _ _ _ _) (by repeat' (first | with_reducible exact hm4 | with_reducible refine Mod.set6 ?_ (.inr ?_) _ _ _ _ _ _ | with_reducible refine Mod.drewN ?_ _ | with_reducible refine Mod.drew ?_ | with_reducible refine Mod.set1 ?_ _ _ | with_reducible refine Mod.alloc ?_ _ | omega | with_reducible refine Mod.setCell ?_ (.inr ?_) _ | (dsimp only; omega)))
      simp only [List.length_drop, Array.length_toList, ByteArray.size_data] at hsl ⊢
      omega
    have x47 : ((s[i].toNat : Int) == 47) = false := by
      rw [beq_eq_false_iff_ne]
      intro c
      exact hx47 (UInt8.toNat_inj.1 (by show _ = 47; omega))
    by_cases hx63 : s[i] = 63
    · have hbn : baseL (s.data.toList.drop i) = some (⟨6, 0, 0, (splitL 63 (s.data.toList.drop (i + 1))).1, 0, false⟩, true, (s.data.toList.drop (i + 1)).drop (splitL 63 (s.data.toList.drop (i + 1))).2) := by unfold baseL; rw [HN.out, HD.out, hx63]; simp
      have HB := Lib.hid hbn
      have hxn : ((s[i].toNat : Int) == 63) = true := by rw [hx63]; rfl
      have hxv : (s[i].toNat : Int) = ((63 : UInt8).toNat : Int) := by rw [hx63]
      have HX := Lib.hid hxv
      have hsl := splitL_len 63 _ (s.data.toList.drop (i + 1)) (Nat.le_refl _)
      clear hbn hx63 hxv
      go_wp2_with fail
      have k1 : IntKind.i64.wrap ((i : Int) + 1) = (i : Int) + 1 := by rw [IntWalk.i64_in _ (by omega)]
      refine wp_region_after_all (by kernel_rfl) (by kernel_rfl) ?_
      repeat (go_big_quiet_step ((go_at_call 88; exact After.calls_below (rsplit_at s (i + 1) 63 _ _ _ (by omega) HX.out (by omega) hs))))
      refine wpQuiet_nil ?_
      intro _ hu
      obtain ⟨u, hu'⟩ := hu
      subst hu'
      clear k1
      have hr4 : RP b s i u.w := u.get hr3
      have hb4 := u.get hb3
      have hm4 : Mod (· = b) w u.w := hm3.trans u.h.widen
      clear hr3 hb3 hm3 g0 g1 g2 g3 g4 g5 d0 d1 d2 d3 d4 d5 c0 c1 f1 hltb hltc
      generalize u.w = w4 at *
      have c0 := hr4.c0
      have c1 := hr4.c1
      have f1 := hr4.f1
      have hltb := lt_of_blk hr4
      have hltc := lt_of_blk hb4
      obtain ⟨g0, g1, g2, g3, g4, g5⟩ := six_frozen hb4
      obtain ⟨d0, d1, d2, d3, d4, d5⟩ := six_cells hb4
      go_wp2_with fail
      refine bodyPost_ret (results_ad rfl rfl (blk_set6 (blk_setCell_ne hb4 (Ne.symm hne) 1 _) _ _ _ _ _ _)) rfl ?_
      refine rbase_some (j := i + 1 + (splitL 63 (s.data.toList.drop (i + 1))).2) HB.out rfl ?_ (blk_set6_ne (RP.setI hr4 (by simp)) hne _ _ _ _ _ _) (by repeat' (first | with_reducible exact hm4 | with_reducible refine Mod.set6 ?_ (.inr ?_) _ _ _ _ _ _ | with_reducible refine Mod.drewN ?_ _ | with_reducible refine Mod.drew ?_ | with_reducible refine Mod.set1 ?_ _ _ | with_reducible refine Mod.alloc ?_ _ | omega | with_reducible refine Mod.setCell ?_ (.inr ?_) _ | (dsimp only; omega)))
      simp only [List.length_drop, Array.length_toList, ByteArray.size_data] at hsl ⊢
      omega
    have x63 : ((s[i].toNat : Int) == 63) = false := by
      rw [beq_eq_false_iff_ne]
      intro c
      exact hx63 (UInt8.toNat_inj.1 (by show _ = 63; omega))
    have hbn : baseL (s.data.toList.drop i) = some (⟨2, 0, 0, [], 0, false⟩, false, s.data.toList.drop i) := by unfold baseL; rw [HN.out, HD.out]; simp [hx46, hx36, hx39, hx47, hx63]
    have HB := Lib.hid hbn
    clear hbn hx46 hx36 hx39 hx47 hx63
    go_wp2_with fail
    refine bodyPost_ret (results_ad rfl rfl (blk_set6 hb3 _ _ _ _ _ _)) rfl ?_
    exact rbase_some (j := i) HB.out rfl (by simp; omega) (blk_set6_ne hr3 hne _ _ _ _ _ _) (by repeat' (first | with_reducible exact hm3 | with_reducible refine Mod.set6 ?_ (.inr ?_) _ _ _ _ _ _ | with_reducible refine Mod.drewN ?_ _ | with_reducible refine Mod.drew ?_ | with_reducible refine Mod.set1 ?_ _ _ | with_reducible refine Mod.alloc ?_ _ | omega | with_reducible refine Mod.setCell ?_ (.inr ?_) _ | (dsimp only; omega)))
  · have hd : s.data.toList.drop i = [] := by rw [List.drop_of_length_le (by simp; omega)]
    have hbn : baseL (s.data.toList.drop i) = some (⟨2, 0, 0, [], 0, false⟩, false, []) := by unfold baseL; rw [hnum, hd]
    have HB := Lib.hid hbn
    clear hbn hd hnum
    go_wp2_with fail
    refine wp_region_after_all (by kernel_rfl) (by kernel_rfl) ?_
    repeat (go_big_quiet_step ((fail)))
    refine wpQuiet_nil ?_
    intro _ hu
    obtain ⟨u, hu'⟩ := hu
    subst hu'
    have hr2 : RP b s i u.w := u.get hrp
    have hb2 := u.get hblk
    have hm2 : Mod (· = b) w u.w := hm0.trans u.h.widen
    obtain ⟨g0, g1, g2, g3, g4, g5⟩ := six_frozen hb2
    obtain ⟨d0, d1, d2, d3, d4, d5⟩ := six_cells hb2
    go_wp2_with fail
    refine bodyPost_ret (results_ad rfl rfl (blk_set6 hb2 _ _ _ _ _ _)) rfl ?_
    exact rbase_some (j := i) HB.out rfl (by simp; omega) (blk_set6_ne hr2 hne _ _ _ _ _ _) (by repeat' (first | with_reducible exact hm2 | with_reducible refine Mod.set6 ?_ (.inr ?_) _ _ _ _ _ _ | with_reducible refine Mod.drewN ?_ _ | with_reducible refine Mod.drew ?_ | with_reducible refine Mod.set1 ?_ _ _ | with_reducible refine Mod.alloc ?_ _ | omega | with_reducible refine Mod.setCell ?_ (.inr ?_) _ | (dsimp only; omega)))
end Go.Proofs.YthajagmccaaanaaGreatDoor
