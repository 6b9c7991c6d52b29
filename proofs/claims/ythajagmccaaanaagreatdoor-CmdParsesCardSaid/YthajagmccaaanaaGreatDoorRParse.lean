/- emendatorref14.Parse. -/
import Derived.Test.YthajagmccaaanaaGreatDoorROne
import Derived.Test.YthajagmccaaanaaGreatDoorParseA
namespace Go.Proofs.YthajagmccaaanaaGreatDoor
open Go.RowKit

def RParsePost (s : ByteArray) (w : World) (e : Ending) (w' : World) : Prop :=
  Below w.heap.size w w' ∧ match rangeL s.data.toList with
  | none => e = .returned (.tuple #[.slice none 0 0, .int .i64 0, .int .i64 141])
  | some (l, r) => ∃ v, e = .returned (.tuple #[v, .int .i64 ((s.size - r.length : Nat)), .int .i64 0]) ∧ AdsV w.heap.size v l w' ∧ ∃ k, k ≤ s.size ∧ r = s.data.toList.drop k
theorem rparse_none {s : ByteArray} {w w' : World} (h : rangeL s.data.toList = none) (hb : Below w.heap.size w w') : RParsePost s w (.returned (.tuple #[.slice none 0 0, .int .i64 0, .int .i64 141])) w' := by
  unfold RParsePost; rw [h]; exact ⟨hb, rfl⟩
theorem rparse_some {s : ByteArray} {w w' : World} {l : List Ad} {j : Nat} {r : Bs} {v : Value} {x : Int} (h : rangeL s.data.toList = some (l, r)) (hj : j ≤ s.size) (hr : r = s.data.toList.drop j) (hx : x = (j : Int)) (hv : AdsV w.heap.size v l w') (hb : Below w.heap.size w w') :
    RParsePost s w (.returned (.tuple #[v, .int .i64 x, .int .i64 0])) w' := by
  unfold RParsePost; rw [h]
  refine ⟨hb, v, ?_, hv, j, hj, hr⟩
  rw [hr, hx, List.length_drop, Array.length_toList, ByteArray.size_data, show s.size - (s.size - j) = j by omega]

/-- The loop's head. -/
def RPRel (s : ByteArray) (w : World) (g : Nat) (v : Value) (wr : World) : Prop :=
  ∃ (j k : Nat) (out : List Ad), j ≤ s.size ∧ s.size < g + j ∧ s.size < k + j ∧ out.length ≤ j ∧ rangeL s.data.toList = adsL k out (s.data.toList.drop j) ∧
    RP w.heap.size s j wr ∧ AdsV (w.heap.size + 1) v out wr ∧ Below w.heap.size w wr

theorem trim3_yes {s : ByteArray} {k : Nat} (h : k < s.size) (hb : s[k] = 58 ∨ blk (s[k].toNat : Int) = true) : Lib.trimLeftS (s.data.toList.drop k) [32, 9, 58] = Lib.trimLeftS (s.data.toList.drop (k + 1)) [32, 9, 58] := by
  rw [drop_at s k h]
  unfold Lib.trimLeftS
  rw [List.dropWhile_cons, if_pos]
  simp only [List.contains_cons, List.contains_nil, Bool.or_false, Bool.or_eq_true, beq_iff_eq]
  rcases hb with hb | hb
  · exact .inr (.inr hb)
  · simp only [blk, decide_eq_true_eq] at hb
    rcases hb with hb | hb
    · exact .inl (UInt8.toNat_inj.1 (by show _ = 32; omega))
    · exact .inr (.inl (UInt8.toNat_inj.1 (by show _ = 9; omega)))
theorem trim3_no {s : ByteArray} {k : Nat} (h : k < s.size) (h1 : s[k] ≠ 58) (hb : blk (s[k].toNat : Int) = false) : Lib.trimLeftS (s.data.toList.drop k) [32, 9, 58] = s.data.toList.drop k := by
  rw [drop_at s k h]
  simp only [blk, decide_eq_false_iff_not, not_or] at hb
  unfold Lib.trimLeftS
  rw [List.dropWhile_cons, if_neg]
  simp only [List.contains_cons, List.contains_nil, Bool.or_false, Bool.or_eq_true, beq_iff_eq, not_or]
  exact ⟨fun e => hb.1 (by rw [e]; rfl), fun e => hb.2 (by rw [e]; rfl), h1⟩

theorem baseL_semi {l : Bs} {a : Ad} {is : Bool} {r : Bs} (h : baseL l = some (a, is, r)) : a.semi = false := by
  unfold baseL at h
  repeat' split at h
  all_goals (first | (cases h; rfl) | cases h)
theorem oneL_semi {l : Bs} {a : Ad} {is : Bool} {r : Bs} (h : oneL l = some (a, is, r)) : { a with semi := false } = a := by
  have key : a.semi = false := by
    unfold oneL at h
    split at h
    · cases h
    · rename_i hb
      have k := baseL_semi hb
      split at h
      · cases h
      · cases h
        exact k
  cases a
  simp only at key
  rw [key]
theorem isAt_eq {s : ByteArray} {j : Nat} {x : UInt8} {r : Bs} (h : s.data.toList.drop j = x :: r) (c : Int) : isAt s j c = ((x.toNat : Int) == c) := by
  obtain ⟨hn, hj, _⟩ := nextB_drop h
  unfold isAt
  rw [dif_pos hj]
  unfold nextB at hn
  rw [dif_pos hj] at hn
  rw [hn]
theorem isAt_nil {s : ByteArray} {j : Nat} (h : s.data.toList.drop j = []) (c : Int) : isAt s j c = false := by
  unfold isAt
  rw [dif_neg]
  intro hj
  rw [drop_at s j hj] at h
  cases h
theorem isAt_not {s : ByteArray} {j : Nat} {y : UInt8} (h : ∀ t, s.data.toList.drop j ≠ y :: t) : isAt s j (y.toNat : Int) = false := by
  rcases hd : s.data.toList.drop j with _ | ⟨x, r⟩
  · exact isAt_nil hd _
  · rw [isAt_eq hd, beq_eq_false_iff_ne]
    intro c
    exact h r (by rw [hd]; congr 1; exact UInt8.toNat_inj.1 (by omega))

set_option maxRecDepth 100000 in
set_option maxHeartbeats 4000000 in
theorem rparse_any (s : ByteArray) (w : World) (hs : s.size ≤ 1000) :
    Calls Tryz.prog 16 #[.string s] w (RParsePost s w) := by
  go_enter Tryz.func16, Tryz.ntmps16
  go_wp2_with fail
  go_loopg [] (s.size + 1) (fun g wr => ∃ k, s.size + 1 ≤ g + k ∧ k ≤ s.size ∧ Lib.trimLeftS (s.data.toList.drop k) [32, 9, 58] = Lib.trimLeftS s.data.toList [32, 9, 58] ∧ RP w.heap.size s k wr ∧ Below w.heap.size w wr)
  case atStart => exact ⟨0, by omega, by omega, rfl, blk_new _ _, (Below.refl _ w).alloc (Nat.le_refl _) _⟩
  case round =>
    obtain ⟨k, hgk, hk, hbl, hrp, hB⟩ := hrel
    have c0 := hrp.c0
    have c1 := hrp.c1
    have f1 := hrp.f1
    have hltb := lt_of_blk hrp
    have hsz := hB.size
    by_cases hlt : k < s.size
    · have hcall := fun V => ris_s8 s[k] V
      by_cases h58 : s[k] = 58
      · have e58 : ((s[k].toNat : Int) == 58) = true := by rw [h58]; rfl
        have hst := Lib.hid ((trim3_yes hlt (.inl h58)).symm.trans hbl)
        clear hbl h58 hcall
        go_wp2_with fail
        go_roundg (gk - 1)
        case measure => omega
        case rel => exact ⟨k + 1, by omega, by omega, hst.out, hrp.setI (by omega), hB.setCell (p := ⟨w.heap.size, 1, none⟩) (Nat.le_refl _) _⟩
      · have e58 : ((s[k].toNat : Int) == 58) = false := by
          rw [beq_eq_false_iff_ne]
          intro c
          exact h58 (UInt8.toNat_inj.1 (by show _ = 58; omega))
        cases hbk : blk (s[k].toNat : Int) with
        | true =>
          have hst := Lib.hid ((trim3_yes hlt (.inr hbk)).symm.trans hbl)
          rw [hbk] at hcall
          clear hbl hbk h58
          go_wp2_with fail
          refine (hcall wr).mono ?_
          rintro e w2 ⟨rfl, hw⟩
          obtain rfl : wr = w2 := hw.symm
          go_wp2_with fail
          go_roundg (gk - 1)
          case measure => omega
          case rel => exact ⟨k + 1, by omega, by omega, hst.out, hrp.setI (by omega), hB.setCell (p := ⟨w.heap.size, 1, none⟩) (Nat.le_refl _) _⟩
        | false =>
          have hst := (trim3_no hlt h58 hbk).symm.trans hbl
          rw [hbk] at hcall
          have HT := Lib.hid hst
          clear hbl hbk h58 hst
          go_wp2_with fail
          refine (hcall wr).mono ?_
          rintro e w2 ⟨rfl, hw⟩
          obtain rfl : wr = w2 := hw.symm
          clear hcall
          go_wp2_with fail
          clear c0 c1 f1
          by_cases hp : ∃ t, s.data.toList.drop k = 37 :: t
          · obtain ⟨t, ht⟩ := hp
            have hr := rangeL_pct (HT.out.symm.trans ht)
            have hia : isAt s k 37 = true := by rw [isAt_eq ht]; rfl
            have hks : k < s.size := (nextB_drop ht).2.1
            have htd := (nextB_drop ht).2.2
            have hbt : blanks t = s.data.toList.drop (s.size - (blanks t).length) := by
              have h1 := trim_drop t [32, 9]
              have h2 := trimLeft_le t [32, 9]
              have h3 : t.length = s.size - (k + 1) := by rw [htd]; simp
              conv => lhs; rw [blanks, h1, htd, List.drop_drop]
              congr 1
              unfold blanks
              rw [← htd]
              omega
            have HR := Lib.hid hr
            have HD := Lib.hid htd
            have HB := Lib.hid hbt
            clear hr ht htd hbt
            refine (r_is w.heap.size s k 37 _ hrp hk).mono ?_
            rintro e w2 ⟨rfl, n1, rfl⟩
            rw [hia]
            clear hia
            have hr2 : RP w.heap.size s k (wr.drewN n1) := hrp
            have hB2 : Below w.heap.size w (wr.drewN n1) := hB.mk_drewN _
            generalize wr.drewN n1 = w2 at *
            have c0 := hr2.c0
            have c1 := hr2.c1
            have f1 := hr2.f1
            go_wp2_with fail
            refine (r_blanks w.heap.size s (k + 1) _ (by exact RP.setI hr2 (by omega)) (by omega) (by omega)).mono ?_
            rintro e w3 ⟨rfl, hr3, hm3⟩
            rw [← HD.out] at hr3
            have hB3 : Below w.heap.size w w3 := hB2.trans (Mod.below (S := (· = w.heap.size)) (Mod.trans (by exact (Mod.refl _ w2).set1 1 _) hm3) hB2.size (fun k hk c => by omega))
            clear hm3 c0 c1 f1
            have c1 := hr3.c1
            have hw3 := lt_of_blk hr3
            have hne := World.new_ne w3 _ c1
            go_wp2_with fail
            go_region_held3 (fun w' => w'.cell? ⟨w.heap.size, 1, none⟩ = some (.int .i64 ((s.size - (blanks t).length : Nat) : Int))) (go_keep) (fail)
            all_goals go_wp2_with fail
            all_goals go_ret3
            exact rparse_some HR.out (by omega) HB.out rfl ⟨rfl, .inr ⟨w3.heap.size, 2, _, rfl, hB3.size, blk_new w3.drew _, Nat.le_refl _, by decide, rfl, rfl⟩⟩ (hB3.drew.alloc hB3.size _)
          · have hia : isAt s k 37 = false := isAt_not (y := 37) (fun t ht => hp ⟨t, ht⟩)
            have hr := rangeL_ads (s := s.data.toList) (fun t ht => hp ⟨t, HT.out.trans ht⟩)
            rw [← HT.out] at hr
            have hTl : (s.data.toList.drop k).length = s.size - k := by simp
            rw [hTl] at hr
            have HR := Lib.hid hr
            clear hr hp hTl
            refine (r_is w.heap.size s k 37 _ hrp hk).mono ?_
            rintro e w2 ⟨rfl, n1, rfl⟩
            rw [hia]
            clear hia
            have hr2 : RP w.heap.size s k (wr.drewN n1) := hrp
            have hB2 : Below w.heap.size w (wr.drewN n1) := hB.mk_drewN _
            generalize wr.drewN n1 = w2 at *
            clear hrp hB hltb hsz
            go_wp2_with fail
            go_loopg [6] (s.size + 1) (fun g v wr => RPRel s w g v wr)
            case atStart => exact ⟨k, s.size - k + 1, [], hk, by omega, by omega, by simp, HR.out, hr2, AdsV.nil _ _, hB2⟩
            case round =>
              clear hr2 hB2 hk HR HT
              obtain ⟨j, q, out, hj, hg, hq, hol, heq, hpl, hv, hb⟩ := hrel
              obtain ⟨q, rfl⟩ : ∃ m, q = m + 1 := ⟨q - 1, by omega⟩
              have hP := lt_of_blk hpl
              obtain ⟨pv, cv, rfl⟩ := hv.shape
              go_wp2_with fail
              refine (rone_any w.heap.size s j _ hpl hj (by omega)).mono ?_
              intro e w3 hq2
              unfold ROnePost at hq2
              rcases hone : oneL (s.data.toList.drop j) with _ | ⟨a, is, r⟩
              · rw [hone] at hq2
                obtain ⟨⟨a, is, rfl⟩, hm⟩ := hq2
                have HE := Lib.hid (show rangeL s.data.toList = none by rw [heq, adsL, hone])
                have hb3 : Below w.heap.size w w3 := hb.trans (hm.below (by omega) (fun k hk c => by omega))
                clear heq hone hv
                unfold adV adCells
                go_wp2_with fail
                go_ret3
                exact rparse_none HE.out (hb3.alloc hb3.size _)
              · rw [hone] at hq2
                obtain ⟨rfl, hpl3, hm, m, hmj, hr⟩ := hq2
                have hsemi := oneL_semi hone
                have hrl : r.length = s.size - (j + m) := by rw [hr]; simp
                rw [hrl, show s.size - (s.size - (j + m)) = j + m by omega] at hpl3
                have hb3 : Below w.heap.size w w3 := hb.trans (hm.below (by omega) (fun k hk c => by omega))
                have hv3 := hv.mod hm (fun k hk c => by omega)
                have hP3 := lt_of_blk hpl3
                have hbr := trim_drop r [32, 9]
                have hbl2 := trimLeft_le r [32, 9]
                obtain ⟨j2, hj2, hjm, hbd⟩ : ∃ j2, s.size - (blanks r).length = j2 ∧ j + m ≤ j2 ∧ blanks r = s.data.toList.drop j2 := by
                  refine ⟨_, rfl, by unfold blanks; omega, ?_⟩
                  unfold blanks
                  conv => lhs; rw [hbr, hr, List.drop_drop, ← hr]
                  congr 1
                  omega
                have heq2 : rangeL s.data.toList = adsL (q + 1) out (s.data.toList.drop j) := heq
                rw [adsL, hone] at heq2
                simp only at heq2
                have HR0 := Lib.hid hr
                have HJ2 := Lib.hid hj2
                have HQ2 := Lib.hid heq2
                have HBD := Lib.hid hbd
                have HSM := Lib.hid hsemi
                have hj2s : j2 ≤ s.size := by omega
                clear hv hpl hb hm heq hone hr hj2 heq2 hbd hsemi hbr hrl hbl2
                unfold adV adCells
                go_wp2_with fail
                refine (r_blanks w.heap.size s (j + m) _ (by exact blk_alloc hpl3 _) (by omega) (by omega)).mono ?_
                rintro e w4 ⟨rfl, hpl4, hm4⟩
                rw [← HR0.out, HJ2.out] at hpl4
                have hA4 : AdAt w3.heap.size a w4 := hm4.get (blk_new _ _) (by omega)
                have hb4 : Below w.heap.size w w4 := (hb3.alloc hb3.size _).trans (hm4.below (by have := hb3.size; simp; omega) (fun k hk c => by omega))
                have hm34 : Mod (· = w.heap.size) w3 w4 := Mod.trans (by exact (Mod.refl _ w3).alloc _) hm4
                have hv3l := hv3.own_lt
                clear hpl3 hb3 hm4
                obtain ⟨i0, hi0, hz0, hz1, hz2⟩ := info_parts infoAddr
                go_wp2_with fail
                have hbd := HBD.out
                have heq2 := HQ2.out
                have hsemi := HSM.out
                clear HBD HQ2 HSM
                by_cases hmore : ∃ x t, blanks r = x :: t ∧ (x = 44 ∨ x = 59)
                · obtain ⟨x, t, hxt, hx⟩ := hmore
                  obtain ⟨hn, hjs, htd⟩ := nextB_drop (hbd.symm.trans hxt)
                  obtain ⟨j3, hj3, hj23, hb3⟩ : ∃ j3, s.size - (blanks t).length = j3 ∧ j2 + 1 ≤ j3 ∧ blanks t = s.data.toList.drop j3 := by
                    have h1 := trim_drop t [32, 9]
                    have h2 := trimLeft_le t [32, 9]
                    have h3 : t.length = s.size - (j2 + 1) := by rw [htd]; simp
                    refine ⟨_, rfl, by unfold blanks; omega, ?_⟩
                    unfold blanks
                    conv => lhs; rw [h1, htd, List.drop_drop, ← htd]
                    congr 1
                    omega
                  have HT2 := Lib.hid htd
                  clear htd hn hsemi
                  rcases hx with hx | hx
                  · have hx : x = 44 := hx
                    subst hx
                    have h44 : isAt s j2 44 = true := by rw [isAt_eq (hbd.symm.trans hxt)]; rfl
                    have h59 : isAt s j2 59 = false := by rw [isAt_eq (hbd.symm.trans hxt)]; rfl
                    have HR := Lib.hid (show rangeL s.data.toList = adsL q (out ++ [{ a with semi := false }]) (s.data.toList.drop j3) by rw [heq2, hxt]; show (if _ then _ else _) = _; rw [if_pos (by decide), hb3]; rfl)
                    clear heq2 hxt hb3 hbd
                    refine (r_is w.heap.size s j2 44 w4 hpl4 hj2s).mono ?_
                    rintro e w5 ⟨rfl, n1, rfl⟩
                    rw [h44]
                    go_wp2_with fail
                    refine (r_is w.heap.size s j2 59 (w4.drewN n1) (by exact hpl4) hj2s).mono ?_
                    rintro e w6 ⟨rfl, n2, rfl⟩
                    rw [h59]
                    have hpl5 : RP w.heap.size s j2 ((w4.drewN n1).drewN n2) := hpl4
                    have hA5 : AdAt w3.heap.size a ((w4.drewN n1).drewN n2) := hA4
                    have hb5 : Below w.heap.size w ((w4.drewN n1).drewN n2) := (hb4.mk_drewN _).mk_drewN _
                    have hm35 : Mod (· = w.heap.size) w3 ((w4.drewN n1).drewN n2) := (hm34.drewN _).drewN _
                    generalize (w4.drewN n1).drewN n2 = w5 at *
                    clear hpl4 hA4 hb4 hm34 h44 h59
                    have hA5l := lt_of_blk hA5
                    have hP5 := lt_of_blk hpl5
                    obtain ⟨d0, d1, d2, d3, d4, d5⟩ := six_cells hA5
                    obtain ⟨y0, y1, y2, y3, y4, y5⟩ := six_frozen hA5
                    go_upto_region 21 with (fail)
                    refine name_world (Q := fun W => Code.wp _ _ _ _ W) _ fun W hW => ?_
                    have hmW : Mod (· = w.heap.size) w3 W := by rw [hW]; exact hm35.setCell (p := ⟨w3.heap.size, 5, none⟩) (.inr (Nat.le_refl _)) _
                    have hplW : RP w.heap.size s j2 W := by rw [hW]; exact blk_setCell_ne (o := .cells #[.string s, .int .i64 (j2 : Nat)] 71 (0, 0)) hpl5 (by omega) 5 _
                    have hAW : AdAt w3.heap.size { a with semi := false } W := by rw [hW]; exact AdAt.semi (a := a) (w := w5) hA5 _
                    have hbW : Below w.heap.size w W := by rw [hW]; exact hb5.setCell (p := ⟨w3.heap.size, 5, none⟩) (by simp only; omega) _
                    have hvW : AdsV (w.heap.size + 1) (.slice pv out.length cv) out W := hv3.mod hmW (fun k hk c => by omega)
                    have hWsz := hmW.size
                    clear hW hm35 hpl5 hA5 hb5 d0 d1 d2 d3 d4 d5 y0 y1 y2 y3 y4 y5
                    obtain ⟨d0, d1, d2, d3, d4, d5⟩ := six_cells hAW
                    go_wp2_with (at_builtin; refine wpList_append_own _ rfl (.tmp 105) (.tmp 107) 23 rfl (w.heap.size + 1) 58 i0 _ 6 56 Tryz.underlying23 hi0 hz0 hz1 hz2 rfl (by decide) _ _ _ rfl (World.ownsRow.alloc hvW _) ⟨W.heap.size, 0, none⟩ 1 1 (adCells { a with semi := false }) rfl rfl (adCells_new W _ _) (adCells_one _) (by simp only [maxLen]; omega) (by omega) (by simp; omega) ?_)
                    intro v' w6 hown' hgrow _
                    have hm6 : Mod (fun k => (Value.slice pv out.length cv).ownBlock = some k) W w6 := Mod.trans ((Mod.refl _ W).alloc _) (Mod.of_grown hgrow)
                    have hpl6 : RP w.heap.size s j2 w6 := hm6.get hplW (fun c => by have := hv3l _ c; omega)
                    have hb6 : Below w.heap.size w w6 := hbW.trans (hm6.below (by omega) (fun k hk c => by have := hv3l _ c; omega))
                    have hv6 : AdsV (w.heap.size + 1) v' (out ++ [{ a with semi := false }]) w6 := by
                      unfold AdsV
                      rw [adsCells_snoc, List.length_append]
                      exact hown'
                    clear hown' hgrow hm6 hvW hAW hplW hbW d0 d1 d2 d3 d4 d5
                    have c1 := hpl6.c1
                    have f1 := hpl6.f1
                    go_wp2_with fail
                    refine (r_blanks w.heap.size s (j2 + 1) _ (by exact RP.setI (i := j2) hpl6 (by omega)) (by omega) (by omega)).mono ?_
                    rintro e w7 ⟨rfl, hpl7, hm7⟩
                    rw [← HT2.out, hj3] at hpl7
                    have hm67 : Mod (· = w.heap.size) w6 w7 := Mod.trans (by exact (Mod.refl _ w6).set1 1 _) hm7
                    go_wp2_with fail
                    go_roundg (gk - 1)
                    case measure => omega
                    case rel => exact ⟨j3, q, _, by omega, by omega, by omega, by simp; omega, HR.out, hpl7, hv6.mod hm67 (fun k hk c => by omega), hb6.trans (hm67.below (by have := hb6.size; omega) (fun k hk c => by omega))⟩
                  · have hx : x = 59 := hx
                    subst hx
                    have h44 : isAt s j2 44 = false := by rw [isAt_eq (hbd.symm.trans hxt)]; rfl
                    have h59 : isAt s j2 59 = true := by rw [isAt_eq (hbd.symm.trans hxt)]; rfl
                    have HR := Lib.hid (show rangeL s.data.toList = adsL q (out ++ [{ a with semi := true }]) (s.data.toList.drop j3) by rw [heq2, hxt]; show (if _ then _ else _) = _; rw [if_pos (by decide), hb3]; rfl)
                    clear heq2 hxt hb3 hbd
                    refine (r_is w.heap.size s j2 44 w4 hpl4 hj2s).mono ?_
                    rintro e w5 ⟨rfl, n1, rfl⟩
                    rw [h44]
                    go_wp2_with fail
                    refine (r_is w.heap.size s j2 59 (w4.drewN n1) (by exact hpl4) hj2s).mono ?_
                    rintro e w6 ⟨rfl, n2, rfl⟩
                    rw [h59]
                    have hpl5 : RP w.heap.size s j2 ((w4.drewN n1).drewN n2) := hpl4
                    have hA5 : AdAt w3.heap.size a ((w4.drewN n1).drewN n2) := hA4
                    have hb5 : Below w.heap.size w ((w4.drewN n1).drewN n2) := (hb4.mk_drewN _).mk_drewN _
                    have hm35 : Mod (· = w.heap.size) w3 ((w4.drewN n1).drewN n2) := (hm34.drewN _).drewN _
                    generalize (w4.drewN n1).drewN n2 = w5 at *
                    clear hpl4 hA4 hb4 hm34 h44 h59
                    have hA5l := lt_of_blk hA5
                    have hP5 := lt_of_blk hpl5
                    obtain ⟨d0, d1, d2, d3, d4, d5⟩ := six_cells hA5
                    obtain ⟨y0, y1, y2, y3, y4, y5⟩ := six_frozen hA5
                    go_upto_region 21 with (fail)
                    refine name_world (Q := fun W => Code.wp _ _ _ _ W) _ fun W hW => ?_
                    have hmW : Mod (· = w.heap.size) w3 W := by rw [hW]; exact hm35.setCell (p := ⟨w3.heap.size, 5, none⟩) (.inr (Nat.le_refl _)) _
                    have hplW : RP w.heap.size s j2 W := by rw [hW]; exact blk_setCell_ne (o := .cells #[.string s, .int .i64 (j2 : Nat)] 71 (0, 0)) hpl5 (by omega) 5 _
                    have hAW : AdAt w3.heap.size { a with semi := true } W := by rw [hW]; exact AdAt.semi (a := a) (w := w5) hA5 _
                    have hbW : Below w.heap.size w W := by rw [hW]; exact hb5.setCell (p := ⟨w3.heap.size, 5, none⟩) (by simp only; omega) _
                    have hvW : AdsV (w.heap.size + 1) (.slice pv out.length cv) out W := hv3.mod hmW (fun k hk c => by omega)
                    have hWsz := hmW.size
                    clear hW hm35 hpl5 hA5 hb5 d0 d1 d2 d3 d4 d5 y0 y1 y2 y3 y4 y5
                    obtain ⟨d0, d1, d2, d3, d4, d5⟩ := six_cells hAW
                    go_wp2_with (at_builtin; refine wpList_append_own _ rfl (.tmp 105) (.tmp 107) 23 rfl (w.heap.size + 1) 58 i0 _ 6 56 Tryz.underlying23 hi0 hz0 hz1 hz2 rfl (by decide) _ _ _ rfl (World.ownsRow.alloc hvW _) ⟨W.heap.size, 0, none⟩ 1 1 (adCells { a with semi := true }) rfl rfl (adCells_new W _ _) (adCells_one _) (by simp only [maxLen]; omega) (by omega) (by simp; omega) ?_)
                    intro v' w6 hown' hgrow _
                    have hm6 : Mod (fun k => (Value.slice pv out.length cv).ownBlock = some k) W w6 := Mod.trans ((Mod.refl _ W).alloc _) (Mod.of_grown hgrow)
                    have hpl6 : RP w.heap.size s j2 w6 := hm6.get hplW (fun c => by have := hv3l _ c; omega)
                    have hb6 : Below w.heap.size w w6 := hbW.trans (hm6.below (by omega) (fun k hk c => by have := hv3l _ c; omega))
                    have hv6 : AdsV (w.heap.size + 1) v' (out ++ [{ a with semi := true }]) w6 := by
                      unfold AdsV
                      rw [adsCells_snoc, List.length_append]
                      exact hown'
                    clear hown' hgrow hm6 hvW hAW hplW hbW d0 d1 d2 d3 d4 d5
                    have c1 := hpl6.c1
                    have f1 := hpl6.f1
                    go_wp2_with fail
                    refine (r_blanks w.heap.size s (j2 + 1) _ (by exact RP.setI (i := j2) hpl6 (by omega)) (by omega) (by omega)).mono ?_
                    rintro e w7 ⟨rfl, hpl7, hm7⟩
                    rw [← HT2.out, hj3] at hpl7
                    have hm67 : Mod (· = w.heap.size) w6 w7 := Mod.trans (by exact (Mod.refl _ w6).set1 1 _) hm7
                    go_wp2_with fail
                    go_roundg (gk - 1)
                    case measure => omega
                    case rel => exact ⟨j3, q, _, by omega, by omega, by omega, by simp; omega, HR.out, hpl7, hv6.mod hm67 (fun k hk c => by omega), hb6.trans (hm67.below (by have := hb6.size; omega) (fun k hk c => by omega))⟩
                · have h44 : isAt s j2 44 = false := isAt_not (y := 44) (fun t ht => hmore ⟨44, t, hbd.trans ht, .inl rfl⟩)
                  have h59 : isAt s j2 59 = false := isAt_not (y := 59) (fun t ht => hmore ⟨59, t, hbd.trans ht, .inr rfl⟩)
                  have heq3 : rangeL s.data.toList = some (if is || !out.isEmpty then out ++ [a] else out, s.data.toList.drop j2) := by
                    rw [heq2]
                    rcases hbl2 : blanks r with _ | ⟨x, t⟩
                    · rw [← hbd, hbl2]; simp only [hsemi]
                    · simp only
                      rw [if_neg (fun c => hmore ⟨x, t, hbl2, c⟩), ← hbd, hbl2, hsemi]
                  clear heq2 hmore hbd hsemi
                  have hE : is = true ∨ (is = false ∧ out = []) ∨ (is = false ∧ out ≠ []) := by
                    cases is
                    · rcases out with _ | ⟨o, out⟩
                      · exact .inr (.inl ⟨rfl, rfl⟩)
                      · exact .inr (.inr ⟨rfl, by simp⟩)
                    · exact .inl rfl
                  rcases hE with rfl | ⟨rfl, rfl⟩ | ⟨rfl, hne⟩
                  · have HR := Lib.hid (show rangeL s.data.toList = some (out ++ [a], s.data.toList.drop j2) from heq3)
                    clear heq3
                    refine (r_is w.heap.size s j2 44 w4 hpl4 hj2s).mono ?_
                    rintro e w5 ⟨rfl, n1, rfl⟩
                    rw [h44]
                    go_wp2_with fail
                    refine (r_is w.heap.size s j2 59 (w4.drewN n1) (by exact hpl4) hj2s).mono ?_
                    rintro e w6 ⟨rfl, n2, rfl⟩
                    rw [h59]
                    have hpl5 : RP w.heap.size s j2 ((w4.drewN n1).drewN n2) := hpl4
                    have hA5 : AdAt w3.heap.size a ((w4.drewN n1).drewN n2) := hA4
                    have hb5 : Below w.heap.size w ((w4.drewN n1).drewN n2) := (hb4.mk_drewN _).mk_drewN _
                    have hm35 : Mod (· = w.heap.size) w3 ((w4.drewN n1).drewN n2) := (hm34.drewN _).drewN _
                    generalize (w4.drewN n1).drewN n2 = w5 at *
                    clear hpl4 hA4 hb4 hm34 h44 h59
                    have hA5l := lt_of_blk hA5
                    have hP5 := lt_of_blk hpl5
                    obtain ⟨d0, d1, d2, d3, d4, d5⟩ := six_cells hA5
                    have hvW : AdsV (w.heap.size + 1) (.slice pv out.length cv) out w5 := hv3.mod hm35 (fun k hk c => by omega)
                    have hWsz := hm35.size
                    go_wp2_with (at_builtin; refine wpList_append_own _ rfl (.tmp 94) (.tmp 96) 23 rfl (w.heap.size + 1) 58 i0 _ 6 56 Tryz.underlying23 hi0 hz0 hz1 hz2 rfl (by decide) _ _ _ rfl (World.ownsRow.alloc hvW _) ⟨w5.heap.size, 0, none⟩ 1 1 (adCells a) rfl rfl (adCells_new w5 _ _) (adCells_one _) (by simp only [maxLen]; omega) (by omega) (by simp; omega) ?_)
                    intro v' w6 hown' hgrow _
                    have hm6 : Mod (fun k => (Value.slice pv out.length cv).ownBlock = some k) w5 w6 := Mod.trans ((Mod.refl _ w5).alloc _) (Mod.of_grown hgrow)
                    have hpl6 : RP w.heap.size s j2 w6 := hm6.get hpl5 (fun c => by have := hv3l _ c; omega)
                    have hb6 : Below w.heap.size w w6 := hb5.trans (hm6.below (by omega) (fun k hk c => by have := hv3l _ c; omega))
                    have hv6 : AdsV (w.heap.size + 1) v' (out ++ [a]) w6 := by
                      unfold AdsV
                      rw [adsCells_snoc, List.length_append]
                      exact hown'
                    clear hown' hgrow hm6 hvW hA5 hpl5 hb5 d0 d1 d2 d3 d4 d5
                    obtain ⟨pp, cc, rfl⟩ := hv6.shape
                    have c1 := hpl6.c1
                    go_wp2_with fail
                    go_quiet (fail)
                    go_wp2_with fail
                    go_ret3
                    exact rparse_some HR.out hj2s rfl rfl (hv6.base (by omega)) (hb6.mk_drewN _)
                  · have HR := Lib.hid (show rangeL s.data.toList = some ([], s.data.toList.drop j2) from heq3)
                    clear heq3
                    refine (r_is w.heap.size s j2 44 w4 hpl4 hj2s).mono ?_
                    rintro e w5 ⟨rfl, n1, rfl⟩
                    rw [h44]
                    go_wp2_with fail
                    refine (r_is w.heap.size s j2 59 (w4.drewN n1) (by exact hpl4) hj2s).mono ?_
                    rintro e w6 ⟨rfl, n2, rfl⟩
                    rw [h59]
                    have hpl5 : RP w.heap.size s j2 ((w4.drewN n1).drewN n2) := hpl4
                    have hA5 : AdAt w3.heap.size a ((w4.drewN n1).drewN n2) := hA4
                    have hb5 : Below w.heap.size w ((w4.drewN n1).drewN n2) := (hb4.mk_drewN _).mk_drewN _
                    have hm35 : Mod (· = w.heap.size) w3 ((w4.drewN n1).drewN n2) := (hm34.drewN _).drewN _
                    generalize (w4.drewN n1).drewN n2 = w5 at *
                    clear hpl4 hA4 hb4 hm34 h44 h59
                    have hA5l := lt_of_blk hA5
                    have hP5 := lt_of_blk hpl5
                    have c1 := hpl5.c1
                    have hvW : AdsV (w.heap.size + 1) (.slice pv ([] : List Ad).length cv) [] w5 := hv3.mod hm35 (fun k hk c => by omega)
                    go_wp2_with fail
                    go_quiet (fail)
                    go_wp2_with fail
                    go_ret3
                    exact rparse_some HR.out hj2s rfl rfl (hvW.base (by omega)) (hb5.mk_drewN _)
                  · have hol0 : 0 < out.length := List.length_pos_iff.2 hne
                    have HR := Lib.hid (show rangeL s.data.toList = some (out ++ [a], s.data.toList.drop j2) by
                      rw [heq3]
                      rcases out with _ | ⟨o, out⟩
                      · exact absurd rfl hne
                      · rfl)
                    clear heq3 hne
                    refine (r_is w.heap.size s j2 44 w4 hpl4 hj2s).mono ?_
                    rintro e w5 ⟨rfl, n1, rfl⟩
                    rw [h44]
                    go_wp2_with fail
                    refine (r_is w.heap.size s j2 59 (w4.drewN n1) (by exact hpl4) hj2s).mono ?_
                    rintro e w6 ⟨rfl, n2, rfl⟩
                    rw [h59]
                    have hpl5 : RP w.heap.size s j2 ((w4.drewN n1).drewN n2) := hpl4
                    have hA5 : AdAt w3.heap.size a ((w4.drewN n1).drewN n2) := hA4
                    have hb5 : Below w.heap.size w ((w4.drewN n1).drewN n2) := (hb4.mk_drewN _).mk_drewN _
                    have hm35 : Mod (· = w.heap.size) w3 ((w4.drewN n1).drewN n2) := (hm34.drewN _).drewN _
                    generalize (w4.drewN n1).drewN n2 = w5 at *
                    clear hpl4 hA4 hb4 hm34 h44 h59
                    have hA5l := lt_of_blk hA5
                    have hP5 := lt_of_blk hpl5
                    obtain ⟨d0, d1, d2, d3, d4, d5⟩ := six_cells hA5
                    have hvW : AdsV (w.heap.size + 1) (.slice pv out.length cv) out w5 := hv3.mod hm35 (fun k hk c => by omega)
                    have hWsz := hm35.size
                    go_wp2_with (at_builtin; refine wpList_append_own _ rfl (.tmp 94) (.tmp 96) 23 rfl (w.heap.size + 1) 58 i0 _ 6 56 Tryz.underlying23 hi0 hz0 hz1 hz2 rfl (by decide) _ _ _ rfl (World.ownsRow.alloc hvW _) ⟨w5.heap.size, 0, none⟩ 1 1 (adCells a) rfl rfl (adCells_new w5 _ _) (adCells_one _) (by simp only [maxLen]; omega) (by omega) (by simp; omega) ?_)
                    intro v' w6 hown' hgrow _
                    have hm6 : Mod (fun k => (Value.slice pv out.length cv).ownBlock = some k) w5 w6 := Mod.trans ((Mod.refl _ w5).alloc _) (Mod.of_grown hgrow)
                    have hpl6 : RP w.heap.size s j2 w6 := hm6.get hpl5 (fun c => by have := hv3l _ c; omega)
                    have hb6 : Below w.heap.size w w6 := hb5.trans (hm6.below (by omega) (fun k hk c => by have := hv3l _ c; omega))
                    have hv6 : AdsV (w.heap.size + 1) v' (out ++ [a]) w6 := by
                      unfold AdsV
                      rw [adsCells_snoc, List.length_append]
                      exact hown'
                    clear hown' hgrow hm6 hvW hA5 hpl5 hb5 d0 d1 d2 d3 d4 d5
                    obtain ⟨pp, cc, rfl⟩ := hv6.shape
                    have c1 := hpl6.c1
                    go_wp2_with fail
                    go_quiet (fail)
                    go_wp2_with fail
                    go_ret3
                    exact rparse_some HR.out hj2s rfl rfl (hv6.base (by omega)) (hb6.mk_drewN _)
    · have hst := hbl
      rw [show Lib.trimLeftS (s.data.toList.drop k) [32, 9, 58] = s.data.toList.drop k by rw [List.drop_of_length_le (by simp; omega)]; rfl] at hst
      have HT := Lib.hid hst
      clear hbl hst
      have hp : ¬ ∃ t, s.data.toList.drop k = 37 :: t := by
        rintro ⟨t, ht⟩
        rw [List.drop_of_length_le (by simp; omega)] at ht
        cases ht
      go_wp2_with fail
      clear c0 c1 f1
      have hia : isAt s k 37 = false := isAt_not (y := 37) (fun t ht => hp ⟨t, ht⟩)
      have hr := rangeL_ads (s := s.data.toList) (fun t ht => hp ⟨t, HT.out.trans ht⟩)
      rw [← HT.out] at hr
      have hTl : (s.data.toList.drop k).length = s.size - k := by simp
      rw [hTl] at hr
      have HR := Lib.hid hr
      clear hr hp hTl
      refine (r_is w.heap.size s k 37 _ hrp hk).mono ?_
      rintro e w2 ⟨rfl, n1, rfl⟩
      rw [hia]
      clear hia
      have hr2 : RP w.heap.size s k (wr.drewN n1) := hrp
      have hB2 : Below w.heap.size w (wr.drewN n1) := hB.mk_drewN _
      generalize wr.drewN n1 = w2 at *
      clear hrp hB hltb hsz
      go_wp2_with fail
      go_loopg [6] (s.size + 1) (fun g v wr => RPRel s w g v wr)
      case atStart => exact ⟨k, s.size - k + 1, [], hk, by omega, by omega, by simp, HR.out, hr2, AdsV.nil _ _, hB2⟩
      case round =>
        clear hr2 hB2 hk HR HT
        obtain ⟨j, q, out, hj, hg, hq, hol, heq, hpl, hv, hb⟩ := hrel
        obtain ⟨q, rfl⟩ : ∃ m, q = m + 1 := ⟨q - 1, by omega⟩
        have hP := lt_of_blk hpl
        obtain ⟨pv, cv, rfl⟩ := hv.shape
        go_wp2_with fail
        refine (rone_any w.heap.size s j _ hpl hj (by omega)).mono ?_
        intro e w3 hq2
        unfold ROnePost at hq2
        rcases hone : oneL (s.data.toList.drop j) with _ | ⟨a, is, r⟩
        · rw [hone] at hq2
          obtain ⟨⟨a, is, rfl⟩, hm⟩ := hq2
          have HE := Lib.hid (show rangeL s.data.toList = none by rw [heq, adsL, hone])
          have hb3 : Below w.heap.size w w3 := hb.trans (hm.below (by omega) (fun k hk c => by omega))
          clear heq hone hv
          unfold adV adCells
          go_wp2_with fail
          go_ret3
          exact rparse_none HE.out (hb3.alloc hb3.size _)
        · rw [hone] at hq2
          obtain ⟨rfl, hpl3, hm, m, hmj, hr⟩ := hq2
          have hsemi := oneL_semi hone
          have hrl : r.length = s.size - (j + m) := by rw [hr]; simp
          rw [hrl, show s.size - (s.size - (j + m)) = j + m by omega] at hpl3
          have hb3 : Below w.heap.size w w3 := hb.trans (hm.below (by omega) (fun k hk c => by omega))
          have hv3 := hv.mod hm (fun k hk c => by omega)
          have hP3 := lt_of_blk hpl3
          have hbr := trim_drop r [32, 9]
          have hbl2 := trimLeft_le r [32, 9]
          obtain ⟨j2, hj2, hjm, hbd⟩ : ∃ j2, s.size - (blanks r).length = j2 ∧ j + m ≤ j2 ∧ blanks r = s.data.toList.drop j2 := by
            refine ⟨_, rfl, by unfold blanks; omega, ?_⟩
            unfold blanks
            conv => lhs; rw [hbr, hr, List.drop_drop, ← hr]
            congr 1
            omega
          have heq2 : rangeL s.data.toList = adsL (q + 1) out (s.data.toList.drop j) := heq
          rw [adsL, hone] at heq2
          simp only at heq2
          have HR0 := Lib.hid hr
          have HJ2 := Lib.hid hj2
          have HQ2 := Lib.hid heq2
          have HBD := Lib.hid hbd
          have HSM := Lib.hid hsemi
          have hj2s : j2 ≤ s.size := by omega
          clear hv hpl hb hm heq hone hr hj2 heq2 hbd hsemi hbr hrl hbl2
          unfold adV adCells
          go_wp2_with fail
          refine (r_blanks w.heap.size s (j + m) _ (by exact blk_alloc hpl3 _) (by omega) (by omega)).mono ?_
          rintro e w4 ⟨rfl, hpl4, hm4⟩
          rw [← HR0.out, HJ2.out] at hpl4
          have hA4 : AdAt w3.heap.size a w4 := hm4.get (blk_new _ _) (by omega)
          have hb4 : Below w.heap.size w w4 := (hb3.alloc hb3.size _).trans (hm4.below (by have := hb3.size; simp; omega) (fun k hk c => by omega))
          have hm34 : Mod (· = w.heap.size) w3 w4 := Mod.trans (by exact (Mod.refl _ w3).alloc _) hm4
          have hv3l := hv3.own_lt
          clear hpl3 hb3 hm4
          obtain ⟨i0, hi0, hz0, hz1, hz2⟩ := info_parts infoAddr
          go_wp2_with fail
          have hbd := HBD.out
          have heq2 := HQ2.out
          have hsemi := HSM.out
          clear HBD HQ2 HSM
          by_cases hmore : ∃ x t, blanks r = x :: t ∧ (x = 44 ∨ x = 59)
          · obtain ⟨x, t, hxt, hx⟩ := hmore
            obtain ⟨hn, hjs, htd⟩ := nextB_drop (hbd.symm.trans hxt)
            obtain ⟨j3, hj3, hj23, hb3⟩ : ∃ j3, s.size - (blanks t).length = j3 ∧ j2 + 1 ≤ j3 ∧ blanks t = s.data.toList.drop j3 := by
              have h1 := trim_drop t [32, 9]
              have h2 := trimLeft_le t [32, 9]
              have h3 : t.length = s.size - (j2 + 1) := by rw [htd]; simp
              refine ⟨_, rfl, by unfold blanks; omega, ?_⟩
              unfold blanks
              conv => lhs; rw [h1, htd, List.drop_drop, ← htd]
              congr 1
              omega
            have HT2 := Lib.hid htd
            clear htd hn hsemi
            rcases hx with hx | hx
            · have hx : x = 44 := hx
              subst hx
              have h44 : isAt s j2 44 = true := by rw [isAt_eq (hbd.symm.trans hxt)]; rfl
              have h59 : isAt s j2 59 = false := by rw [isAt_eq (hbd.symm.trans hxt)]; rfl
              have HR := Lib.hid (show rangeL s.data.toList = adsL q (out ++ [{ a with semi := false }]) (s.data.toList.drop j3) by rw [heq2, hxt]; show (if _ then _ else _) = _; rw [if_pos (by decide), hb3]; rfl)
              clear heq2 hxt hb3 hbd
              refine (r_is w.heap.size s j2 44 w4 hpl4 hj2s).mono ?_
              rintro e w5 ⟨rfl, n1, rfl⟩
              rw [h44]
              go_wp2_with fail
              refine (r_is w.heap.size s j2 59 (w4.drewN n1) (by exact hpl4) hj2s).mono ?_
              rintro e w6 ⟨rfl, n2, rfl⟩
              rw [h59]
              have hpl5 : RP w.heap.size s j2 ((w4.drewN n1).drewN n2) := hpl4
              have hA5 : AdAt w3.heap.size a ((w4.drewN n1).drewN n2) := hA4
              have hb5 : Below w.heap.size w ((w4.drewN n1).drewN n2) := (hb4.mk_drewN _).mk_drewN _
              have hm35 : Mod (· = w.heap.size) w3 ((w4.drewN n1).drewN n2) := (hm34.drewN _).drewN _
              generalize (w4.drewN n1).drewN n2 = w5 at *
              clear hpl4 hA4 hb4 hm34 h44 h59
              have hA5l := lt_of_blk hA5
              have hP5 := lt_of_blk hpl5
              obtain ⟨d0, d1, d2, d3, d4, d5⟩ := six_cells hA5
              obtain ⟨y0, y1, y2, y3, y4, y5⟩ := six_frozen hA5
              go_upto_region 21 with (fail)
              refine name_world (Q := fun W => Code.wp _ _ _ _ W) _ fun W hW => ?_
              have hmW : Mod (· = w.heap.size) w3 W := by rw [hW]; exact hm35.setCell (p := ⟨w3.heap.size, 5, none⟩) (.inr (Nat.le_refl _)) _
              have hplW : RP w.heap.size s j2 W := by rw [hW]; exact blk_setCell_ne (o := .cells #[.string s, .int .i64 (j2 : Nat)] 71 (0, 0)) hpl5 (by omega) 5 _
              have hAW : AdAt w3.heap.size { a with semi := false } W := by rw [hW]; exact AdAt.semi (a := a) (w := w5) hA5 _
              have hbW : Below w.heap.size w W := by rw [hW]; exact hb5.setCell (p := ⟨w3.heap.size, 5, none⟩) (by simp only; omega) _
              have hvW : AdsV (w.heap.size + 1) (.slice pv out.length cv) out W := hv3.mod hmW (fun k hk c => by omega)
              have hWsz := hmW.size
              clear hW hm35 hpl5 hA5 hb5 d0 d1 d2 d3 d4 d5 y0 y1 y2 y3 y4 y5
              obtain ⟨d0, d1, d2, d3, d4, d5⟩ := six_cells hAW
              go_wp2_with (at_builtin; refine wpList_append_own _ rfl (.tmp 105) (.tmp 107) 23 rfl (w.heap.size + 1) 58 i0 _ 6 56 Tryz.underlying23 hi0 hz0 hz1 hz2 rfl (by decide) _ _ _ rfl (World.ownsRow.alloc hvW _) ⟨W.heap.size, 0, none⟩ 1 1 (adCells { a with semi := false }) rfl rfl (adCells_new W _ _) (adCells_one _) (by simp only [maxLen]; omega) (by omega) (by simp; omega) ?_)
              intro v' w6 hown' hgrow _
              have hm6 : Mod (fun k => (Value.slice pv out.length cv).ownBlock = some k) W w6 := Mod.trans ((Mod.refl _ W).alloc _) (Mod.of_grown hgrow)
              have hpl6 : RP w.heap.size s j2 w6 := hm6.get hplW (fun c => by have := hv3l _ c; omega)
              have hb6 : Below w.heap.size w w6 := hbW.trans (hm6.below (by omega) (fun k hk c => by have := hv3l _ c; omega))
              have hv6 : AdsV (w.heap.size + 1) v' (out ++ [{ a with semi := false }]) w6 := by
                unfold AdsV
                rw [adsCells_snoc, List.length_append]
                exact hown'
              clear hown' hgrow hm6 hvW hAW hplW hbW d0 d1 d2 d3 d4 d5
              have c1 := hpl6.c1
              have f1 := hpl6.f1
              go_wp2_with fail
              refine (r_blanks w.heap.size s (j2 + 1) _ (by exact RP.setI (i := j2) hpl6 (by omega)) (by omega) (by omega)).mono ?_
              rintro e w7 ⟨rfl, hpl7, hm7⟩
              rw [← HT2.out, hj3] at hpl7
              have hm67 : Mod (· = w.heap.size) w6 w7 := Mod.trans (by exact (Mod.refl _ w6).set1 1 _) hm7
              go_wp2_with fail
              go_roundg (gk - 1)
              case measure => omega
              case rel => exact ⟨j3, q, _, by omega, by omega, by omega, by simp; omega, HR.out, hpl7, hv6.mod hm67 (fun k hk c => by omega), hb6.trans (hm67.below (by have := hb6.size; omega) (fun k hk c => by omega))⟩
            · have hx : x = 59 := hx
              subst hx
              have h44 : isAt s j2 44 = false := by rw [isAt_eq (hbd.symm.trans hxt)]; rfl
              have h59 : isAt s j2 59 = true := by rw [isAt_eq (hbd.symm.trans hxt)]; rfl
              have HR := Lib.hid (show rangeL s.data.toList = adsL q (out ++ [{ a with semi := true }]) (s.data.toList.drop j3) by rw [heq2, hxt]; show (if _ then _ else _) = _; rw [if_pos (by decide), hb3]; rfl)
              clear heq2 hxt hb3 hbd
              refine (r_is w.heap.size s j2 44 w4 hpl4 hj2s).mono ?_
              rintro e w5 ⟨rfl, n1, rfl⟩
              rw [h44]
              go_wp2_with fail
              refine (r_is w.heap.size s j2 59 (w4.drewN n1) (by exact hpl4) hj2s).mono ?_
              rintro e w6 ⟨rfl, n2, rfl⟩
              rw [h59]
              have hpl5 : RP w.heap.size s j2 ((w4.drewN n1).drewN n2) := hpl4
              have hA5 : AdAt w3.heap.size a ((w4.drewN n1).drewN n2) := hA4
              have hb5 : Below w.heap.size w ((w4.drewN n1).drewN n2) := (hb4.mk_drewN _).mk_drewN _
              have hm35 : Mod (· = w.heap.size) w3 ((w4.drewN n1).drewN n2) := (hm34.drewN _).drewN _
              generalize (w4.drewN n1).drewN n2 = w5 at *
              clear hpl4 hA4 hb4 hm34 h44 h59
              have hA5l := lt_of_blk hA5
              have hP5 := lt_of_blk hpl5
              obtain ⟨d0, d1, d2, d3, d4, d5⟩ := six_cells hA5
              obtain ⟨y0, y1, y2, y3, y4, y5⟩ := six_frozen hA5
              go_upto_region 21 with (fail)
              refine name_world (Q := fun W => Code.wp _ _ _ _ W) _ fun W hW => ?_
              have hmW : Mod (· = w.heap.size) w3 W := by rw [hW]; exact hm35.setCell (p := ⟨w3.heap.size, 5, none⟩) (.inr (Nat.le_refl _)) _
              have hplW : RP w.heap.size s j2 W := by rw [hW]; exact blk_setCell_ne (o := .cells #[.string s, .int .i64 (j2 : Nat)] 71 (0, 0)) hpl5 (by omega) 5 _
              have hAW : AdAt w3.heap.size { a with semi := true } W := by rw [hW]; exact AdAt.semi (a := a) (w := w5) hA5 _
              have hbW : Below w.heap.size w W := by rw [hW]; exact hb5.setCell (p := ⟨w3.heap.size, 5, none⟩) (by simp only; omega) _
              have hvW : AdsV (w.heap.size + 1) (.slice pv out.length cv) out W := hv3.mod hmW (fun k hk c => by omega)
              have hWsz := hmW.size
              clear hW hm35 hpl5 hA5 hb5 d0 d1 d2 d3 d4 d5 y0 y1 y2 y3 y4 y5
              obtain ⟨d0, d1, d2, d3, d4, d5⟩ := six_cells hAW
              go_wp2_with (at_builtin; refine wpList_append_own _ rfl (.tmp 105) (.tmp 107) 23 rfl (w.heap.size + 1) 58 i0 _ 6 56 Tryz.underlying23 hi0 hz0 hz1 hz2 rfl (by decide) _ _ _ rfl (World.ownsRow.alloc hvW _) ⟨W.heap.size, 0, none⟩ 1 1 (adCells { a with semi := true }) rfl rfl (adCells_new W _ _) (adCells_one _) (by simp only [maxLen]; omega) (by omega) (by simp; omega) ?_)
              intro v' w6 hown' hgrow _
              have hm6 : Mod (fun k => (Value.slice pv out.length cv).ownBlock = some k) W w6 := Mod.trans ((Mod.refl _ W).alloc _) (Mod.of_grown hgrow)
              have hpl6 : RP w.heap.size s j2 w6 := hm6.get hplW (fun c => by have := hv3l _ c; omega)
              have hb6 : Below w.heap.size w w6 := hbW.trans (hm6.below (by omega) (fun k hk c => by have := hv3l _ c; omega))
              have hv6 : AdsV (w.heap.size + 1) v' (out ++ [{ a with semi := true }]) w6 := by
                unfold AdsV
                rw [adsCells_snoc, List.length_append]
                exact hown'
              clear hown' hgrow hm6 hvW hAW hplW hbW d0 d1 d2 d3 d4 d5
              have c1 := hpl6.c1
              have f1 := hpl6.f1
              go_wp2_with fail
              refine (r_blanks w.heap.size s (j2 + 1) _ (by exact RP.setI (i := j2) hpl6 (by omega)) (by omega) (by omega)).mono ?_
              rintro e w7 ⟨rfl, hpl7, hm7⟩
              rw [← HT2.out, hj3] at hpl7
              have hm67 : Mod (· = w.heap.size) w6 w7 := Mod.trans (by exact (Mod.refl _ w6).set1 1 _) hm7
              go_wp2_with fail
              go_roundg (gk - 1)
              case measure => omega
              case rel => exact ⟨j3, q, _, by omega, by omega, by omega, by simp; omega, HR.out, hpl7, hv6.mod hm67 (fun k hk c => by omega), hb6.trans (hm67.below (by have := hb6.size; omega) (fun k hk c => by omega))⟩
          · have h44 : isAt s j2 44 = false := isAt_not (y := 44) (fun t ht => hmore ⟨44, t, hbd.trans ht, .inl rfl⟩)
            have h59 : isAt s j2 59 = false := isAt_not (y := 59) (fun t ht => hmore ⟨59, t, hbd.trans ht, .inr rfl⟩)
            have heq3 : rangeL s.data.toList = some (if is || !out.isEmpty then out ++ [a] else out, s.data.toList.drop j2) := by
              rw [heq2]
              rcases hbl2 : blanks r with _ | ⟨x, t⟩
              · rw [← hbd, hbl2]; simp only [hsemi]
              · simp only
                rw [if_neg (fun c => hmore ⟨x, t, hbl2, c⟩), ← hbd, hbl2, hsemi]
            clear heq2 hmore hbd hsemi
            have hE : is = true ∨ (is = false ∧ out = []) ∨ (is = false ∧ out ≠ []) := by
              cases is
              · rcases out with _ | ⟨o, out⟩
                · exact .inr (.inl ⟨rfl, rfl⟩)
                · exact .inr (.inr ⟨rfl, by simp⟩)
              · exact .inl rfl
            rcases hE with rfl | ⟨rfl, rfl⟩ | ⟨rfl, hne⟩
            · have HR := Lib.hid (show rangeL s.data.toList = some (out ++ [a], s.data.toList.drop j2) from heq3)
              clear heq3
              refine (r_is w.heap.size s j2 44 w4 hpl4 hj2s).mono ?_
              rintro e w5 ⟨rfl, n1, rfl⟩
              rw [h44]
              go_wp2_with fail
              refine (r_is w.heap.size s j2 59 (w4.drewN n1) (by exact hpl4) hj2s).mono ?_
              rintro e w6 ⟨rfl, n2, rfl⟩
              rw [h59]
              have hpl5 : RP w.heap.size s j2 ((w4.drewN n1).drewN n2) := hpl4
              have hA5 : AdAt w3.heap.size a ((w4.drewN n1).drewN n2) := hA4
              have hb5 : Below w.heap.size w ((w4.drewN n1).drewN n2) := (hb4.mk_drewN _).mk_drewN _
              have hm35 : Mod (· = w.heap.size) w3 ((w4.drewN n1).drewN n2) := (hm34.drewN _).drewN _
              generalize (w4.drewN n1).drewN n2 = w5 at *
              clear hpl4 hA4 hb4 hm34 h44 h59
              have hA5l := lt_of_blk hA5
              have hP5 := lt_of_blk hpl5
              obtain ⟨d0, d1, d2, d3, d4, d5⟩ := six_cells hA5
              have hvW : AdsV (w.heap.size + 1) (.slice pv out.length cv) out w5 := hv3.mod hm35 (fun k hk c => by omega)
              have hWsz := hm35.size
              go_wp2_with (at_builtin; refine wpList_append_own _ rfl (.tmp 94) (.tmp 96) 23 rfl (w.heap.size + 1) 58 i0 _ 6 56 Tryz.underlying23 hi0 hz0 hz1 hz2 rfl (by decide) _ _ _ rfl (World.ownsRow.alloc hvW _) ⟨w5.heap.size, 0, none⟩ 1 1 (adCells a) rfl rfl (adCells_new w5 _ _) (adCells_one _) (by simp only [maxLen]; omega) (by omega) (by simp; omega) ?_)
              intro v' w6 hown' hgrow _
              have hm6 : Mod (fun k => (Value.slice pv out.length cv).ownBlock = some k) w5 w6 := Mod.trans ((Mod.refl _ w5).alloc _) (Mod.of_grown hgrow)
              have hpl6 : RP w.heap.size s j2 w6 := hm6.get hpl5 (fun c => by have := hv3l _ c; omega)
              have hb6 : Below w.heap.size w w6 := hb5.trans (hm6.below (by omega) (fun k hk c => by have := hv3l _ c; omega))
              have hv6 : AdsV (w.heap.size + 1) v' (out ++ [a]) w6 := by
                unfold AdsV
                rw [adsCells_snoc, List.length_append]
                exact hown'
              clear hown' hgrow hm6 hvW hA5 hpl5 hb5 d0 d1 d2 d3 d4 d5
              obtain ⟨pp, cc, rfl⟩ := hv6.shape
              have c1 := hpl6.c1
              go_wp2_with fail
              go_quiet (fail)
              go_wp2_with fail
              go_ret3
              exact rparse_some HR.out hj2s rfl rfl (hv6.base (by omega)) (hb6.mk_drewN _)
            · have HR := Lib.hid (show rangeL s.data.toList = some ([], s.data.toList.drop j2) from heq3)
              clear heq3
              refine (r_is w.heap.size s j2 44 w4 hpl4 hj2s).mono ?_
              rintro e w5 ⟨rfl, n1, rfl⟩
              rw [h44]
              go_wp2_with fail
              refine (r_is w.heap.size s j2 59 (w4.drewN n1) (by exact hpl4) hj2s).mono ?_
              rintro e w6 ⟨rfl, n2, rfl⟩
              rw [h59]
              have hpl5 : RP w.heap.size s j2 ((w4.drewN n1).drewN n2) := hpl4
              have hA5 : AdAt w3.heap.size a ((w4.drewN n1).drewN n2) := hA4
              have hb5 : Below w.heap.size w ((w4.drewN n1).drewN n2) := (hb4.mk_drewN _).mk_drewN _
              have hm35 : Mod (· = w.heap.size) w3 ((w4.drewN n1).drewN n2) := (hm34.drewN _).drewN _
              generalize (w4.drewN n1).drewN n2 = w5 at *
              clear hpl4 hA4 hb4 hm34 h44 h59
              have hA5l := lt_of_blk hA5
              have hP5 := lt_of_blk hpl5
              have c1 := hpl5.c1
              have hvW : AdsV (w.heap.size + 1) (.slice pv ([] : List Ad).length cv) [] w5 := hv3.mod hm35 (fun k hk c => by omega)
              go_wp2_with fail
              go_quiet (fail)
              go_wp2_with fail
              go_ret3
              exact rparse_some HR.out hj2s rfl rfl (hvW.base (by omega)) (hb5.mk_drewN _)
            · have hol0 : 0 < out.length := List.length_pos_iff.2 hne
              have HR := Lib.hid (show rangeL s.data.toList = some (out ++ [a], s.data.toList.drop j2) by
                rw [heq3]
                rcases out with _ | ⟨o, out⟩
                · exact absurd rfl hne
                · rfl)
              clear heq3 hne
              refine (r_is w.heap.size s j2 44 w4 hpl4 hj2s).mono ?_
              rintro e w5 ⟨rfl, n1, rfl⟩
              rw [h44]
              go_wp2_with fail
              refine (r_is w.heap.size s j2 59 (w4.drewN n1) (by exact hpl4) hj2s).mono ?_
              rintro e w6 ⟨rfl, n2, rfl⟩
              rw [h59]
              have hpl5 : RP w.heap.size s j2 ((w4.drewN n1).drewN n2) := hpl4
              have hA5 : AdAt w3.heap.size a ((w4.drewN n1).drewN n2) := hA4
              have hb5 : Below w.heap.size w ((w4.drewN n1).drewN n2) := (hb4.mk_drewN _).mk_drewN _
              have hm35 : Mod (· = w.heap.size) w3 ((w4.drewN n1).drewN n2) := (hm34.drewN _).drewN _
              generalize (w4.drewN n1).drewN n2 = w5 at *
              clear hpl4 hA4 hb4 hm34 h44 h59
              have hA5l := lt_of_blk hA5
              have hP5 := lt_of_blk hpl5
              obtain ⟨d0, d1, d2, d3, d4, d5⟩ := six_cells hA5
              have hvW : AdsV (w.heap.size + 1) (.slice pv out.length cv) out w5 := hv3.mod hm35 (fun k hk c => by omega)
              have hWsz := hm35.size
              go_wp2_with (at_builtin; refine wpList_append_own _ rfl (.tmp 94) (.tmp 96) 23 rfl (w.heap.size + 1) 58 i0 _ 6 56 Tryz.underlying23 hi0 hz0 hz1 hz2 rfl (by decide) _ _ _ rfl (World.ownsRow.alloc hvW _) ⟨w5.heap.size, 0, none⟩ 1 1 (adCells a) rfl rfl (adCells_new w5 _ _) (adCells_one _) (by simp only [maxLen]; omega) (by omega) (by simp; omega) ?_)
              intro v' w6 hown' hgrow _
              have hm6 : Mod (fun k => (Value.slice pv out.length cv).ownBlock = some k) w5 w6 := Mod.trans ((Mod.refl _ w5).alloc _) (Mod.of_grown hgrow)
              have hpl6 : RP w.heap.size s j2 w6 := hm6.get hpl5 (fun c => by have := hv3l _ c; omega)
              have hb6 : Below w.heap.size w w6 := hb5.trans (hm6.below (by omega) (fun k hk c => by have := hv3l _ c; omega))
              have hv6 : AdsV (w.heap.size + 1) v' (out ++ [a]) w6 := by
                unfold AdsV
                rw [adsCells_snoc, List.length_append]
                exact hown'
              clear hown' hgrow hm6 hvW hA5 hpl5 hb5 d0 d1 d2 d3 d4 d5
              obtain ⟨pp, cc, rfl⟩ := hv6.shape
              have c1 := hpl6.c1
              go_wp2_with fail
              go_quiet (fail)
              go_wp2_with fail
              go_ret3
              exact rparse_some HR.out hj2s rfl rfl (hv6.base (by omega)) (hb6.mk_drewN _)
end Go.Proofs.YthajagmccaaanaaGreatDoor
