/- emendatorref15.Parse. -/
import Derived.Test.YthajagmccaaanaaGreatDoorRName
import Derived.Test.YthajagmccaaanaaGreatDoorRv
import Derived.Test.YthajagmccaaanaaGreatDoorSame
namespace Go.Proofs.YthajagmccaaanaaGreatDoor
open Go.RowKit

def RCmdPost (s : Bs) (w : World) (e : Ending) (w' : World) : Prop :=
  Below w.heap.size w w' ∧ ∃ v, match parseR v s with
  | .error n => e = .returned (.tuple #[cmdV cmdZ, .int .i64 n])
  | .ok (c, ads, dst) => ∃ d, e = .returned (.tuple #[cmdV { c with dv := d }, .int .i64 0]) ∧ AdsV w.heap.size v ads w' ∧ AdsV w.heap.size d dst w'
theorem rcmd_err {s : Bs} {w w' : World} {n : Int} (v : Value) (h : parseR v s = .error n) (hb : Below w.heap.size w w') : RCmdPost s w (.returned (.tuple #[cmdV cmdZ, .int .i64 n])) w' := by
  refine ⟨hb, v, ?_⟩
  rw [h]
theorem rcmd_ok {s : Bs} {w w' : World} {v d : Value} {c : Cm} {ads dst : List Ad} (h : parseR v s = .ok (c, ads, dst)) (hb : Below w.heap.size w w') (h1 : AdsV w.heap.size v ads w') (h2 : AdsV w.heap.size d dst w') :
    RCmdPost s w (.returned (.tuple #[cmdV { c with dv := d }, .int .i64 0])) w' := by
  refine ⟨hb, v, ?_⟩
  rw [h]
  exact ⟨d, rfl, h1, h2⟩

theorem AdsV.modk {b : Nat} {a w' : World} {base : Nat} {v : Value} {l : List Ad} (h : AdsV base v l a) (hm : Mod (· = b) a w') (hb : b < base) : AdsV base v l w' := by
  obtain ⟨h1, h2⟩ := h
  refine ⟨h1, ?_⟩
  rcases h2 with h2 | ⟨g, cap, cur, hv, hg, hh, rr⟩
  · exact .inl h2
  · exact .inr ⟨g, cap, cur, hv, hg, hm.get hh (by intro e; omega), rr⟩
theorem cb_drew {B : Nat} {c : Cm} {W : World} (h : CB B c W) : CB B c W.drew := h
theorem cd_drew (w : World) (a : Addr) : w.drew.cell? a = w.cell? a := rfl
theorem cs_other {w : World} {B i k j : Nat} {u : Value} (h : k ≠ B) : (w.setCell ⟨B, i, none⟩ u).cell? ⟨k, j, none⟩ = w.cell? ⟨k, j, none⟩ := World.cell?_setCell_other _ _ _ _ (by intro e; simp only [Addr.mk.injEq] at e; exact h e.1.symm)
theorem hp_end' (b : UInt8) (p : Bs) : Lib.hasPrefix [] (b :: p) = false := by simp [Lib.hasPrefix, List.isPrefixOf]
set_option maxRecDepth 100000 in
set_option maxHeartbeats 4000000 in
theorem rcmd_any (s : Bs) (w : World) (hs : s.length ≤ 1000000) :
    Calls Tryz.prog 6 #[.string ⟨s.toArray⟩] w (RCmdPost s w) := by
  by_cases hlen : 1000 < s.length
  · have HP := Lib.hid (show parseR .nilFunc s = .error 3 by unfold parseR; rw [if_pos hlen])
    go_enter Tryz.func6, Tryz.ntmps6
    go_wp2_with fail
    refine bodyPost_ret (results_cmd (c := cmdZ) rfl rfl (cb_new w)) rfl ?_
    exact rcmd_err _ HP.out ((Below.refl _ w).alloc (Nat.le_refl _) _)
  have h1000 : s.length ≤ 1000 := by omega
  have HP0 := Lib.hid (show ∀ v, parseR v s = match rangeL s with
    | none => .error 141
    | some (ads, r) => bodyL v ads r from fun v => by unfold parseR; exact if_neg hlen)
  go_enter Tryz.func6, Tryz.ntmps6
  go_wp2_with fail
  refine (rparse_any ⟨s.toArray⟩ _ (by simpa [ByteArray.size] using h1000)).mono ?_
  rintro e w1 ⟨hb1, hp⟩
  have hZ1 : CB w.heap.size cmdZ w1 := (hb1.block _ (lt_of_blk (cb_new w))).trans (cb_new w)
  have hB1 : Below w.heap.size w w1 := ((Below.refl _ w).alloc (Nat.le_refl _) _).trans (hb1.mono (by simp))
  have hsz1 : w.heap.size < w1.heap.size := lt_of_blk hZ1
  have hsz1' : w.heap.size ≤ w1.heap.size := Nat.le_of_lt hsz1
  rw [show (⟨s.toArray⟩ : ByteArray).data.toList = s from rfl] at hp
  rcases hr : rangeL s with _ | ⟨ads, r⟩
  · rw [hr] at hp
    subst hp
    have HE := Lib.hid (show parseR .nilFunc s = .error 141 by rw [HP0.out, hr])
    clear hr
    obtain ⟨f0, f1, f2, f3, f4, f5, f6, f7, f8, f9⟩ := ten_fz hZ1
    obtain ⟨d0, d1, d2, d3, d4, d5, d6, d7, d8, d9⟩ := ten_cells hZ1
    go_wp2_with fail
    refine bodyPost_ret (results_cmd (c := cmdZ) rfl rfl (blk_set10 hZ1 _ _ _ _ _ _ _ _ _ _)) rfl ?_
    exact rcmd_err _ HE.out (set10_below hB1 (Nat.le_refl _) _ _ _ _ _ _ _ _ _ _)
  rw [hr] at hp
  obtain ⟨v, rfl, hv, k, hk, hrk⟩ := hp
  obtain ⟨pv, cv, rfl⟩ := hv.shape
  have hv1 : AdsV w.heap.size (.slice pv ads.length cv) ads w1 := hv.base (by simp)
  have HV := Lib.hid hv1
  have hkl : k ≤ s.length := by simpa [ByteArray.size] using hk
  have hrl : r.length = s.length - k := by rw [hrk]; simp
  have hrk' : r = s.drop k := hrk
  have hkk : (⟨s.toArray⟩ : ByteArray).size - r.length = k := by
    rw [hrl]
    show s.toArray.size - _ = _
    simp
    omega
  rw [hkk]
  have HP1 := Lib.hid (show parseR (.slice pv ads.length cv) s = bodyL (.slice pv ads.length cv) ads r by rw [HP0.out, hr])
  have hrl1 : r.length ≤ 1000 := by omega
  have hex := ex_drop s k
  rw [← hrk'] at hex
  clear hr hkk hv hv1 hrk hrk' hrl HP0
  go_wp2_with fail
  refine name_world (Q := fun W1 => Calls _ _ _ W1 _) _ fun W hW => ?_
  have hRW : RR w1.heap.size (cmd0 (.slice pv ads.length cv)) r 0 W := by
    rw [hW]; exact blk_new _ _
  have hmW : Mod (· = w1.heap.size) w1 W := by rw [hW]; exact (Mod.refl _ w1).alloc _
  clear hW
  have HRW := Lib.hid hRW
  refine (rname_any w1.heap.size _ r _ HRW.out hrl1).mono ?_
  rintro e w3 ⟨rfl, hm3, hor⟩
  have hm3' : Mod (· = w1.heap.size) w1 w3 := Mod.trans hmW hm3
  clear hm3 hRW HRW hmW
  rcases hnc : nameC (cmd0 (.slice pv ads.length cv)) r with _ | ⟨c1, l1⟩
  · rw [hnc] at hor
    obtain ⟨cE, lE, hlE, hRE⟩ := hor
    have HP := Lib.hid (show parseR (.slice pv ads.length cv) s = .error 150 by rw [HP1.out]; unfold bodyL; rw [hnc])
    have HRE := Lib.hid hRE
    have hmE := hm3'
    have c10 := hRE.c10
    have c11 := hRE.c11
    have hltE := lt_of_blk hRE
    clear hnc hRE
    go_wp2_with fail
    refine (rrblanks_any w1.heap.size _ _ 150 _ HRE.out hlE).mono ?_
    rintro e w8 ⟨rfl, h8, hm8⟩
    have hm8' : Mod (· = w1.heap.size) w1 w8 := Mod.trans hmE hm8
    have HR8 := Lib.hid h8
    have c10 := h8.c10
    have c11 := h8.c11
    have hlt8 := lt_of_blk h8
    clear h8 hm8
    obtain ⟨lz, hlz⟩ : ∃ lz, blanks lE = lz := ⟨_, rfl⟩
    rw [hlz] at c10
    rw [hlz] at HR8
    clear hlz
    rcases lz with _ | ⟨z, u⟩
    · have hZ8 := hZ1.mod hm8' (by omega)
      obtain ⟨f0, f1, f2, f3, f4, f5, f6, f7, f8, f9⟩ := ten_fz hZ8
      obtain ⟨d0, d1, d2, d3, d4, d5, d6, d7, d8, d9⟩ := ten_cells hZ8
      go_wp2_with fail
      have hne2 : w1.heap.size ≠ w.heap.size := by omega
      go_region_held3 (fun w' => w'.cell? ⟨w1.heap.size, 11, none⟩ = some (.int .i64 150)) (first | (rw [cd_drew, cs_other hne2, cs_other hne2, cs_other hne2, cs_other hne2, cs_other hne2, cs_other hne2, cs_other hne2, cs_other hne2, cs_other hne2, cs_other hne2]; exact c11) | go_keep) (fail)
      all_goals go_wp2_with fail
      all_goals refine bodyPost_ret (results_cmd (c := cmdZ) rfl rfl (cb_drew (blk_set10 hZ8 _ _ _ _ _ _ _ _ _ _))) rfl ?_
      all_goals exact rcmd_err _ HP.out (set10_below (hB1.trans (((hm8').below (Nat.le_refl _) (fun k hk c => by omega)).mono hsz1')) (Nat.le_refl _) _ _ _ _ _ _ _ _ _ _).drew
    · go_wp2_with fail
      refine (wrong_any w1.heap.size _ _ 150 151 _ HR8.out).mono ?_
      rintro e w9 ⟨rfl, h9, hm9⟩
      rw [if_neg (by decide)] at h9
      have hm9' : Mod (· = w1.heap.size) w1 w9 := Mod.trans hm8' hm9
      have c11 := h9.c11
      have hlt9 := lt_of_blk h9
      have hZ8 := hZ1.mod hm9' (by omega)
      clear h9
      obtain ⟨f0, f1, f2, f3, f4, f5, f6, f7, f8, f9⟩ := ten_fz hZ8
      obtain ⟨d0, d1, d2, d3, d4, d5, d6, d7, d8, d9⟩ := ten_cells hZ8
      go_wp2_with fail
      have hne2 : w1.heap.size ≠ w.heap.size := by omega
      go_region_held3 (fun w' => w'.cell? ⟨w1.heap.size, 11, none⟩ = some (.int .i64 150)) (first | (rw [cd_drew, cs_other hne2, cs_other hne2, cs_other hne2, cs_other hne2, cs_other hne2, cs_other hne2, cs_other hne2, cs_other hne2, cs_other hne2, cs_other hne2]; exact c11) | go_keep) (fail)
      all_goals go_wp2_with fail
      all_goals refine bodyPost_ret (results_cmd (c := cmdZ) rfl rfl (cb_drew (blk_set10 hZ8 _ _ _ _ _ _ _ _ _ _))) rfl ?_
      all_goals exact rcmd_err _ HP.out (set10_below (hB1.trans (((hm9').below (Nat.le_refl _) (fun k hk c => by omega)).mono hsz1')) (Nat.le_refl _) _ _ _ _ _ _ _ _ _ _).drew
  have hnn := nameC_names hnc
  rw [hnc] at hor
  have hor : RR w1.heap.size c1 l1 0 w3 := hor
  have HR3 := Lib.hid hor
  have HP2 := Lib.hid (show parseR (.slice pv ads.length cv) s = endL ads (moreL (bangC c1 l1).1 (bangC c1 l1).2) by rw [HP1.out]; unfold bodyL; rw [hnc])
  obtain ⟨hn1, hdv1, hrv1, hl1⟩ := hnn
  have c10 := hor.c10
  have c11 := hor.c11
  have c1n := hor.c1
  have hlt3 := lt_of_blk hor
  have HN1 := Lib.hid hn1
  have HDV1 := Lib.hid hdv1
  have HRV1 := Lib.hid hrv1
  have hl1000 : l1.length ≤ 1000 := by omega
  clear hnc hor HP1 hn1 hdv1 hrv1 hl1
  by_cases hb33 : ∃ t, l1 = 33 :: t
  · obtain ⟨t, rfl⟩ := hb33
    have hlt : t.length + 1 ≤ 1000 := by simpa using hl1000
    have hex := ex_tail 33 t
    have e33 : (((⟨(33 :: t).toArray⟩ : ByteArray)[0]'(head0 33 t)).toNat : Int) == 33 := rfl
    have hbold := fun V => rbold_any c1.name HN1.out V
    cases hbo : isBold c1.name with
    | true =>
      have HB := Lib.hid (bangC_yes (t := t) hbo)
      rw [hbo] at hbold
      have c2 := HR3.out.c2
      have f2 := HR3.out.fz 2
      have f10 := HR3.out.fz 10
      clear hbo
      go_wp2_with fail
      refine (hbold w3).mono ?_
      rintro e w4 ⟨rfl, hw⟩
      obtain rfl : w3 = w4 := hw.symm
      clear hbold
      go_wp2_with fail
      refine (rmore_any w1.heap.size { c1 with bang := true } t _ (by exact ((HR3.out.setBang true).setRest t)) (by omega) HDV1.out HN1.out).mono ?_
      rintro e w5 ⟨rfl, hm5, hor⟩
      have hm5' : Mod (· = w1.heap.size) w1 w5 := Mod.trans ((hm3'.set1 2 _).set1 10 _) hm5
      rcases hmo : moreL { c1 with bang := true } t with kE | ⟨c5, dst, l5⟩
      · rw [hmo] at hor
        obtain ⟨cE, lE, hlE, hRE⟩ := hor
        have HP := Lib.hid (show parseR (.slice pv ads.length cv) s = .error kE by rw [HP2.out, HB.out]; show endL ads (moreL { c1 with bang := true } t) = _; rw [hmo]; rfl)
        have hk := moreL_err hmo
        have hmE := hm5'
        clear hmo
        have ek : (kE == 0) = false := by rcases hk with rfl | rfl | rfl <;> decide
        have HNE := Lib.hid (show kE ≠ 0 by rcases hk with rfl | rfl | rfl <;> decide)
        clear hk
        have HRE := Lib.hid hRE
        have c10 := hRE.c10
        have c11 := hRE.c11
        have hltE := lt_of_blk hRE
        clear hRE
        go_wp2_with fail
        refine (rrblanks_any w1.heap.size _ _ kE _ HRE.out hlE).mono ?_
        rintro e w8 ⟨rfl, h8, hm8⟩
        have hm8' : Mod (· = w1.heap.size) w1 w8 := Mod.trans hmE hm8
        have HR8 := Lib.hid h8
        have c10 := h8.c10
        have c11 := h8.c11
        have hlt8 := lt_of_blk h8
        clear h8 hm8
        obtain ⟨lz, hlz⟩ : ∃ lz, blanks lE = lz := ⟨_, rfl⟩
        rw [hlz] at c10
        rw [hlz] at HR8
        clear hlz
        rcases lz with _ | ⟨z, u⟩
        · have hZ8 := hZ1.mod hm8' (by omega)
          obtain ⟨f0, f1, f2, f3, f4, f5, f6, f7, f8, f9⟩ := ten_fz hZ8
          obtain ⟨d0, d1, d2, d3, d4, d5, d6, d7, d8, d9⟩ := ten_cells hZ8
          go_wp2_with fail
          have hne2 : w1.heap.size ≠ w.heap.size := by omega
          go_region_held3 (fun w' => w'.cell? ⟨w1.heap.size, 11, none⟩ = some (.int .i64 kE)) (first | (rw [cd_drew, cs_other hne2, cs_other hne2, cs_other hne2, cs_other hne2, cs_other hne2, cs_other hne2, cs_other hne2, cs_other hne2, cs_other hne2, cs_other hne2]; exact c11) | go_keep) (fail)
          all_goals go_wp2_with fail
          all_goals refine bodyPost_ret (results_cmd (c := cmdZ) rfl rfl (cb_drew (blk_set10 hZ8 _ _ _ _ _ _ _ _ _ _))) rfl ?_
          all_goals exact rcmd_err _ HP.out (set10_below (hB1.trans (((hm8').below (Nat.le_refl _) (fun k hk c => by omega)).mono hsz1')) (Nat.le_refl _) _ _ _ _ _ _ _ _ _ _).drew
        · go_wp2_with fail
          refine (wrong_any w1.heap.size _ _ kE 151 _ HR8.out).mono ?_
          rintro e w9 ⟨rfl, h9, hm9⟩
          rw [if_neg (HNE.out)] at h9
          have hm9' : Mod (· = w1.heap.size) w1 w9 := Mod.trans hm8' hm9
          have c11 := h9.c11
          have hlt9 := lt_of_blk h9
          have hZ8 := hZ1.mod hm9' (by omega)
          clear h9
          obtain ⟨f0, f1, f2, f3, f4, f5, f6, f7, f8, f9⟩ := ten_fz hZ8
          obtain ⟨d0, d1, d2, d3, d4, d5, d6, d7, d8, d9⟩ := ten_cells hZ8
          go_wp2_with fail
          have hne2 : w1.heap.size ≠ w.heap.size := by omega
          go_region_held3 (fun w' => w'.cell? ⟨w1.heap.size, 11, none⟩ = some (.int .i64 kE)) (first | (rw [cd_drew, cs_other hne2, cs_other hne2, cs_other hne2, cs_other hne2, cs_other hne2, cs_other hne2, cs_other hne2, cs_other hne2, cs_other hne2, cs_other hne2]; exact c11) | go_keep) (fail)
          all_goals go_wp2_with fail
          all_goals refine bodyPost_ret (results_cmd (c := cmdZ) rfl rfl (cb_drew (blk_set10 hZ8 _ _ _ _ _ _ _ _ _ _))) rfl ?_
          all_goals exact rcmd_err _ HP.out (set10_below (hB1.trans (((hm9').below (Nat.le_refl _) (fun k hk c => by omega)).mono hsz1')) (Nat.le_refl _) _ _ _ _ _ _ _ _ _ _).drew
      rw [hmo] at hor
      obtain ⟨q, n5, hl5, h5, hv5⟩ := hor
      have hrv5 := (moreL_rv hmo).trans HRV1.out
      have HP := Lib.hid (show parseR (.slice pv ads.length cv) s = endL ads (.ok (c5, dst, l5)) by rw [HP2.out, HB.out]; show endL ads (moreL { c1 with bang := true } t) = _; rw [hmo])
      have HR5 := Lib.hid h5
      have HV5 := Lib.hid hv5
      have c10 := h5.c10
      have c11 := h5.c11
      have hlt5 := lt_of_blk h5
      clear hmo h5 hv5
      go_wp2_with fail
      refine (rrblanks_any w1.heap.size _ l5 0 _ HR5.out hl5).mono ?_
      rintro e w8 ⟨rfl, h8, hm8⟩
      have hm8' : Mod (· = w1.heap.size) w1 w8 := Mod.trans hm5' hm8
      have HR8 := Lib.hid h8
      obtain ⟨lz, hlz⟩ : ∃ lz, blanks l5 = lz := ⟨_, rfl⟩
      have HLZ := Lib.hid hlz
      rw [hlz] at HR8 h8
      clear hlz
      rcases lz with _ | ⟨z, u⟩
      · have HPO := Lib.hid (show parseR (.slice pv ads.length cv) s = .ok (c5, ads, dst) by rw [HP.out]; unfold endL; simp only [HLZ.out])
        have hZ8 := hZ1.mod hm8' (by omega)
        obtain ⟨f0, f1, f2, f3, f4, f5, f6, f7, f8, f9⟩ := ten_fz hZ8
        obtain ⟨d0, d1, d2, d3, d4, d5, d6, d7, d8, d9⟩ := ten_cells hZ8
        have k0 := h8.c0
        have k1 := h8.c1
        have k2 := h8.c2
        have k3 := h8.c3
        have k4 := h8.c4
        have k5 := h8.c5
        have k6 := h8.c6
        have k7 := h8.c7
        have k8 := h8.c8
        have k9 := h8.c9
        have c10 := h8.c10
        have c11 := h8.c11
        have hlt8 := lt_of_blk h8
        rw [hrv5] at k0
        simp only at k0 k1 k2 k3 k4 k5 k6 k7 k8 k9
        clear h8
        go_wp2_with fail
        have hb8 : Below w1.heap.size w1 w8 := hm8'.below (Nat.le_refl _) (fun k hk c => by omega)
        refine bodyPost_ret (results_cmd (c := { c5 with rv := .slice pv ads.length cv, dv := .slice q dst.length n5 }) rfl rfl (blk_set10 hZ8 _ _ _ _ _ _ _ _ _ _)) rfl ?_
        rw [show ({ c5 with rv := .slice pv ads.length cv, dv := .slice q dst.length n5 } : Cm) = { c5 with dv := .slice q dst.length n5 } by rw [← hrv5]]
        have hms := Mod.set10 (S := (· = w.heap.size)) (B := w.heap.size) (Mod.refl _ w8) (.inl rfl) (.slice pv ads.length cv) (.string ⟨c5.name.toArray⟩) (.bool c5.bang) (.int .u8 c5.reg.toNat) (.int .i64 c5.count) (.slice q dst.length n5) (.string ⟨c5.pat.toArray⟩) (.string ⟨c5.rep.toArray⟩) (.string ⟨c5.flags.toArray⟩) (.string ⟨c5.arg.toArray⟩)
        exact rcmd_ok HPO.out (set10_below (hB1.trans (hb8.mono hsz1')) (Nat.le_refl _) _ _ _ _ _ _ _ _ _ _) ((HV.out.keep hb8).setc hms hZ8) (((HV5.out.modk hm8 (by first | omega | (simp; omega))).base (by first | omega | (simp; omega))).setc hms hZ8)
      · have HPE := Lib.hid (show parseR (.slice pv ads.length cv) s = .error 151 by rw [HP.out]; unfold endL; simp only [HLZ.out])
        have c10 := h8.c10
        have c11 := h8.c11
        have hlt8 := lt_of_blk h8
        clear h8
        go_wp2_with fail
        refine (wrong_any w1.heap.size _ _ 0 151 _ HR8.out).mono ?_
        rintro e w9 ⟨rfl, h9, hm9⟩
        rw [if_pos rfl] at h9
        have hm9' : Mod (· = w1.heap.size) w1 w9 := Mod.trans hm8' hm9
        have c11 := h9.c11
        have hlt9 := lt_of_blk h9
        have hZ8 := hZ1.mod hm9' (by omega)
        clear h9
        obtain ⟨f0, f1, f2, f3, f4, f5, f6, f7, f8, f9⟩ := ten_fz hZ8
        obtain ⟨d0, d1, d2, d3, d4, d5, d6, d7, d8, d9⟩ := ten_cells hZ8
        go_wp2_with fail
        have hne2 : w1.heap.size ≠ w.heap.size := by omega
        go_region_held3 (fun w' => w'.cell? ⟨w1.heap.size, 11, none⟩ = some (.int .i64 151)) (first | (rw [cd_drew, cs_other hne2, cs_other hne2, cs_other hne2, cs_other hne2, cs_other hne2, cs_other hne2, cs_other hne2, cs_other hne2, cs_other hne2, cs_other hne2]; exact c11) | go_keep) (fail)
        all_goals go_wp2_with fail
        all_goals refine bodyPost_ret (results_cmd (c := cmdZ) rfl rfl (cb_drew (blk_set10 hZ8 _ _ _ _ _ _ _ _ _ _))) rfl ?_
        all_goals exact rcmd_err _ HPE.out (set10_below (hB1.trans (((hm9').below (Nat.le_refl _) (fun k hk c => by omega)).mono hsz1')) (Nat.le_refl _) _ _ _ _ _ _ _ _ _ _).drew
    | false =>
      have HB := Lib.hid (bangC_no (c := c1) (l := 33 :: t) (.inr hbo))
      rw [hbo] at hbold
      clear hbo
      go_wp2_with fail
      refine (hbold w3).mono ?_
      rintro e w4 ⟨rfl, hw⟩
      obtain rfl : w3 = w4 := hw.symm
      clear hbold
      go_wp2_with fail
      refine (rmore_any w1.heap.size c1 (33 :: t) _ (by exact HR3.out) (hl1000) HDV1.out HN1.out).mono ?_
      rintro e w5 ⟨rfl, hm5, hor⟩
      have hm5' : Mod (· = w1.heap.size) w1 w5 := Mod.trans hm3' hm5
      rcases hmo : moreL c1 (33 :: t) with kE | ⟨c5, dst, l5⟩
      · rw [hmo] at hor
        obtain ⟨cE, lE, hlE, hRE⟩ := hor
        have HP := Lib.hid (show parseR (.slice pv ads.length cv) s = .error kE by rw [HP2.out, HB.out]; show endL ads (moreL c1 (33 :: t)) = _; rw [hmo]; rfl)
        have hk := moreL_err hmo
        have hmE := hm5'
        clear hmo
        have ek : (kE == 0) = false := by rcases hk with rfl | rfl | rfl <;> decide
        have HNE := Lib.hid (show kE ≠ 0 by rcases hk with rfl | rfl | rfl <;> decide)
        clear hk
        have HRE := Lib.hid hRE
        have c10 := hRE.c10
        have c11 := hRE.c11
        have hltE := lt_of_blk hRE
        clear hRE
        go_wp2_with fail
        refine (rrblanks_any w1.heap.size _ _ kE _ HRE.out hlE).mono ?_
        rintro e w8 ⟨rfl, h8, hm8⟩
        have hm8' : Mod (· = w1.heap.size) w1 w8 := Mod.trans hmE hm8
        have HR8 := Lib.hid h8
        have c10 := h8.c10
        have c11 := h8.c11
        have hlt8 := lt_of_blk h8
        clear h8 hm8
        obtain ⟨lz, hlz⟩ : ∃ lz, blanks lE = lz := ⟨_, rfl⟩
        rw [hlz] at c10
        rw [hlz] at HR8
        clear hlz
        rcases lz with _ | ⟨z, u⟩
        · have hZ8 := hZ1.mod hm8' (by omega)
          obtain ⟨f0, f1, f2, f3, f4, f5, f6, f7, f8, f9⟩ := ten_fz hZ8
          obtain ⟨d0, d1, d2, d3, d4, d5, d6, d7, d8, d9⟩ := ten_cells hZ8
          go_wp2_with fail
          have hne2 : w1.heap.size ≠ w.heap.size := by omega
          go_region_held3 (fun w' => w'.cell? ⟨w1.heap.size, 11, none⟩ = some (.int .i64 kE)) (first | (rw [cd_drew, cs_other hne2, cs_other hne2, cs_other hne2, cs_other hne2, cs_other hne2, cs_other hne2, cs_other hne2, cs_other hne2, cs_other hne2, cs_other hne2]; exact c11) | go_keep) (fail)
          all_goals go_wp2_with fail
          all_goals refine bodyPost_ret (results_cmd (c := cmdZ) rfl rfl (cb_drew (blk_set10 hZ8 _ _ _ _ _ _ _ _ _ _))) rfl ?_
          all_goals exact rcmd_err _ HP.out (set10_below (hB1.trans (((hm8').below (Nat.le_refl _) (fun k hk c => by omega)).mono hsz1')) (Nat.le_refl _) _ _ _ _ _ _ _ _ _ _).drew
        · go_wp2_with fail
          refine (wrong_any w1.heap.size _ _ kE 151 _ HR8.out).mono ?_
          rintro e w9 ⟨rfl, h9, hm9⟩
          rw [if_neg (HNE.out)] at h9
          have hm9' : Mod (· = w1.heap.size) w1 w9 := Mod.trans hm8' hm9
          have c11 := h9.c11
          have hlt9 := lt_of_blk h9
          have hZ8 := hZ1.mod hm9' (by omega)
          clear h9
          obtain ⟨f0, f1, f2, f3, f4, f5, f6, f7, f8, f9⟩ := ten_fz hZ8
          obtain ⟨d0, d1, d2, d3, d4, d5, d6, d7, d8, d9⟩ := ten_cells hZ8
          go_wp2_with fail
          have hne2 : w1.heap.size ≠ w.heap.size := by omega
          go_region_held3 (fun w' => w'.cell? ⟨w1.heap.size, 11, none⟩ = some (.int .i64 kE)) (first | (rw [cd_drew, cs_other hne2, cs_other hne2, cs_other hne2, cs_other hne2, cs_other hne2, cs_other hne2, cs_other hne2, cs_other hne2, cs_other hne2, cs_other hne2]; exact c11) | go_keep) (fail)
          all_goals go_wp2_with fail
          all_goals refine bodyPost_ret (results_cmd (c := cmdZ) rfl rfl (cb_drew (blk_set10 hZ8 _ _ _ _ _ _ _ _ _ _))) rfl ?_
          all_goals exact rcmd_err _ HP.out (set10_below (hB1.trans (((hm9').below (Nat.le_refl _) (fun k hk c => by omega)).mono hsz1')) (Nat.le_refl _) _ _ _ _ _ _ _ _ _ _).drew
      rw [hmo] at hor
      obtain ⟨q, n5, hl5, h5, hv5⟩ := hor
      have hrv5 := (moreL_rv hmo).trans HRV1.out
      have HP := Lib.hid (show parseR (.slice pv ads.length cv) s = endL ads (.ok (c5, dst, l5)) by rw [HP2.out, HB.out]; show endL ads (moreL c1 (33 :: t)) = _; rw [hmo])
      have HR5 := Lib.hid h5
      have HV5 := Lib.hid hv5
      have c10 := h5.c10
      have c11 := h5.c11
      have hlt5 := lt_of_blk h5
      clear hmo h5 hv5
      go_wp2_with fail
      refine (rrblanks_any w1.heap.size _ l5 0 _ HR5.out hl5).mono ?_
      rintro e w8 ⟨rfl, h8, hm8⟩
      have hm8' : Mod (· = w1.heap.size) w1 w8 := Mod.trans hm5' hm8
      have HR8 := Lib.hid h8
      obtain ⟨lz, hlz⟩ : ∃ lz, blanks l5 = lz := ⟨_, rfl⟩
      have HLZ := Lib.hid hlz
      rw [hlz] at HR8 h8
      clear hlz
      rcases lz with _ | ⟨z, u⟩
      · have HPO := Lib.hid (show parseR (.slice pv ads.length cv) s = .ok (c5, ads, dst) by rw [HP.out]; unfold endL; simp only [HLZ.out])
        have hZ8 := hZ1.mod hm8' (by omega)
        obtain ⟨f0, f1, f2, f3, f4, f5, f6, f7, f8, f9⟩ := ten_fz hZ8
        obtain ⟨d0, d1, d2, d3, d4, d5, d6, d7, d8, d9⟩ := ten_cells hZ8
        have k0 := h8.c0
        have k1 := h8.c1
        have k2 := h8.c2
        have k3 := h8.c3
        have k4 := h8.c4
        have k5 := h8.c5
        have k6 := h8.c6
        have k7 := h8.c7
        have k8 := h8.c8
        have k9 := h8.c9
        have c10 := h8.c10
        have c11 := h8.c11
        have hlt8 := lt_of_blk h8
        rw [hrv5] at k0
        simp only at k0 k1 k2 k3 k4 k5 k6 k7 k8 k9
        clear h8
        go_wp2_with fail
        have hb8 : Below w1.heap.size w1 w8 := hm8'.below (Nat.le_refl _) (fun k hk c => by omega)
        refine bodyPost_ret (results_cmd (c := { c5 with rv := .slice pv ads.length cv, dv := .slice q dst.length n5 }) rfl rfl (blk_set10 hZ8 _ _ _ _ _ _ _ _ _ _)) rfl ?_
        rw [show ({ c5 with rv := .slice pv ads.length cv, dv := .slice q dst.length n5 } : Cm) = { c5 with dv := .slice q dst.length n5 } by rw [← hrv5]]
        have hms := Mod.set10 (S := (· = w.heap.size)) (B := w.heap.size) (Mod.refl _ w8) (.inl rfl) (.slice pv ads.length cv) (.string ⟨c5.name.toArray⟩) (.bool c5.bang) (.int .u8 c5.reg.toNat) (.int .i64 c5.count) (.slice q dst.length n5) (.string ⟨c5.pat.toArray⟩) (.string ⟨c5.rep.toArray⟩) (.string ⟨c5.flags.toArray⟩) (.string ⟨c5.arg.toArray⟩)
        exact rcmd_ok HPO.out (set10_below (hB1.trans (hb8.mono hsz1')) (Nat.le_refl _) _ _ _ _ _ _ _ _ _ _) ((HV.out.keep hb8).setc hms hZ8) (((HV5.out.modk hm8 (by first | omega | (simp; omega))).base (by first | omega | (simp; omega))).setc hms hZ8)
      · have HPE := Lib.hid (show parseR (.slice pv ads.length cv) s = .error 151 by rw [HP.out]; unfold endL; simp only [HLZ.out])
        have c10 := h8.c10
        have c11 := h8.c11
        have hlt8 := lt_of_blk h8
        clear h8
        go_wp2_with fail
        refine (wrong_any w1.heap.size _ _ 0 151 _ HR8.out).mono ?_
        rintro e w9 ⟨rfl, h9, hm9⟩
        rw [if_pos rfl] at h9
        have hm9' : Mod (· = w1.heap.size) w1 w9 := Mod.trans hm8' hm9
        have c11 := h9.c11
        have hlt9 := lt_of_blk h9
        have hZ8 := hZ1.mod hm9' (by omega)
        clear h9
        obtain ⟨f0, f1, f2, f3, f4, f5, f6, f7, f8, f9⟩ := ten_fz hZ8
        obtain ⟨d0, d1, d2, d3, d4, d5, d6, d7, d8, d9⟩ := ten_cells hZ8
        go_wp2_with fail
        have hne2 : w1.heap.size ≠ w.heap.size := by omega
        go_region_held3 (fun w' => w'.cell? ⟨w1.heap.size, 11, none⟩ = some (.int .i64 151)) (first | (rw [cd_drew, cs_other hne2, cs_other hne2, cs_other hne2, cs_other hne2, cs_other hne2, cs_other hne2, cs_other hne2, cs_other hne2, cs_other hne2, cs_other hne2]; exact c11) | go_keep) (fail)
        all_goals go_wp2_with fail
        all_goals refine bodyPost_ret (results_cmd (c := cmdZ) rfl rfl (cb_drew (blk_set10 hZ8 _ _ _ _ _ _ _ _ _ _))) rfl ?_
        all_goals exact rcmd_err _ HPE.out (set10_below (hB1.trans (((hm9').below (Nat.le_refl _) (fun k hk c => by omega)).mono hsz1')) (Nat.le_refl _) _ _ _ _ _ _ _ _ _ _).drew
  · have HB := Lib.hid (bangC_no (c := c1) (l := l1) (.inl (by
      rcases l1 with _ | ⟨y, u⟩
      · exact hp_end' 33 []
      · cases hq : Lib.hasPrefix (y :: u) [33] with
        | false => rfl
        | true => exact absurd (prefix1 hq) hb33)))
    rcases l1 with _ | ⟨y, u⟩
    · go_wp2_with fail
      refine (rmore_any w1.heap.size c1 [] _ (by exact HR3.out) (hl1000) HDV1.out HN1.out).mono ?_
      rintro e w5 ⟨rfl, hm5, hor⟩
      have hm5' : Mod (· = w1.heap.size) w1 w5 := Mod.trans hm3' hm5
      rcases hmo : moreL c1 [] with kE | ⟨c5, dst, l5⟩
      · rw [hmo] at hor
        obtain ⟨cE, lE, hlE, hRE⟩ := hor
        have HP := Lib.hid (show parseR (.slice pv ads.length cv) s = .error kE by rw [HP2.out, HB.out]; show endL ads (moreL c1 []) = _; rw [hmo]; rfl)
        have hk := moreL_err hmo
        have hmE := hm5'
        clear hmo
        have ek : (kE == 0) = false := by rcases hk with rfl | rfl | rfl <;> decide
        have HNE := Lib.hid (show kE ≠ 0 by rcases hk with rfl | rfl | rfl <;> decide)
        clear hk
        have HRE := Lib.hid hRE
        have c10 := hRE.c10
        have c11 := hRE.c11
        have hltE := lt_of_blk hRE
        clear hRE
        go_wp2_with fail
        refine (rrblanks_any w1.heap.size _ _ kE _ HRE.out hlE).mono ?_
        rintro e w8 ⟨rfl, h8, hm8⟩
        have hm8' : Mod (· = w1.heap.size) w1 w8 := Mod.trans hmE hm8
        have HR8 := Lib.hid h8
        have c10 := h8.c10
        have c11 := h8.c11
        have hlt8 := lt_of_blk h8
        clear h8 hm8
        obtain ⟨lz, hlz⟩ : ∃ lz, blanks lE = lz := ⟨_, rfl⟩
        rw [hlz] at c10
        rw [hlz] at HR8
        clear hlz
        rcases lz with _ | ⟨z, u⟩
        · have hZ8 := hZ1.mod hm8' (by omega)
          obtain ⟨f0, f1, f2, f3, f4, f5, f6, f7, f8, f9⟩ := ten_fz hZ8
          obtain ⟨d0, d1, d2, d3, d4, d5, d6, d7, d8, d9⟩ := ten_cells hZ8
          go_wp2_with fail
          have hne2 : w1.heap.size ≠ w.heap.size := by omega
          go_region_held3 (fun w' => w'.cell? ⟨w1.heap.size, 11, none⟩ = some (.int .i64 kE)) (first | (rw [cd_drew, cs_other hne2, cs_other hne2, cs_other hne2, cs_other hne2, cs_other hne2, cs_other hne2, cs_other hne2, cs_other hne2, cs_other hne2, cs_other hne2]; exact c11) | go_keep) (fail)
          all_goals go_wp2_with fail
          all_goals refine bodyPost_ret (results_cmd (c := cmdZ) rfl rfl (cb_drew (blk_set10 hZ8 _ _ _ _ _ _ _ _ _ _))) rfl ?_
          all_goals exact rcmd_err _ HP.out (set10_below (hB1.trans (((hm8').below (Nat.le_refl _) (fun k hk c => by omega)).mono hsz1')) (Nat.le_refl _) _ _ _ _ _ _ _ _ _ _).drew
        · go_wp2_with fail
          refine (wrong_any w1.heap.size _ _ kE 151 _ HR8.out).mono ?_
          rintro e w9 ⟨rfl, h9, hm9⟩
          rw [if_neg (HNE.out)] at h9
          have hm9' : Mod (· = w1.heap.size) w1 w9 := Mod.trans hm8' hm9
          have c11 := h9.c11
          have hlt9 := lt_of_blk h9
          have hZ8 := hZ1.mod hm9' (by omega)
          clear h9
          obtain ⟨f0, f1, f2, f3, f4, f5, f6, f7, f8, f9⟩ := ten_fz hZ8
          obtain ⟨d0, d1, d2, d3, d4, d5, d6, d7, d8, d9⟩ := ten_cells hZ8
          go_wp2_with fail
          have hne2 : w1.heap.size ≠ w.heap.size := by omega
          go_region_held3 (fun w' => w'.cell? ⟨w1.heap.size, 11, none⟩ = some (.int .i64 kE)) (first | (rw [cd_drew, cs_other hne2, cs_other hne2, cs_other hne2, cs_other hne2, cs_other hne2, cs_other hne2, cs_other hne2, cs_other hne2, cs_other hne2, cs_other hne2]; exact c11) | go_keep) (fail)
          all_goals go_wp2_with fail
          all_goals refine bodyPost_ret (results_cmd (c := cmdZ) rfl rfl (cb_drew (blk_set10 hZ8 _ _ _ _ _ _ _ _ _ _))) rfl ?_
          all_goals exact rcmd_err _ HP.out (set10_below (hB1.trans (((hm9').below (Nat.le_refl _) (fun k hk c => by omega)).mono hsz1')) (Nat.le_refl _) _ _ _ _ _ _ _ _ _ _).drew
      rw [hmo] at hor
      obtain ⟨q, n5, hl5, h5, hv5⟩ := hor
      have hrv5 := (moreL_rv hmo).trans HRV1.out
      have HP := Lib.hid (show parseR (.slice pv ads.length cv) s = endL ads (.ok (c5, dst, l5)) by rw [HP2.out, HB.out]; show endL ads (moreL c1 []) = _; rw [hmo])
      have HR5 := Lib.hid h5
      have HV5 := Lib.hid hv5
      have c10 := h5.c10
      have c11 := h5.c11
      have hlt5 := lt_of_blk h5
      clear hmo h5 hv5
      go_wp2_with fail
      refine (rrblanks_any w1.heap.size _ l5 0 _ HR5.out hl5).mono ?_
      rintro e w8 ⟨rfl, h8, hm8⟩
      have hm8' : Mod (· = w1.heap.size) w1 w8 := Mod.trans hm5' hm8
      have HR8 := Lib.hid h8
      obtain ⟨lz, hlz⟩ : ∃ lz, blanks l5 = lz := ⟨_, rfl⟩
      have HLZ := Lib.hid hlz
      rw [hlz] at HR8 h8
      clear hlz
      rcases lz with _ | ⟨z, u⟩
      · have HPO := Lib.hid (show parseR (.slice pv ads.length cv) s = .ok (c5, ads, dst) by rw [HP.out]; unfold endL; simp only [HLZ.out])
        have hZ8 := hZ1.mod hm8' (by omega)
        obtain ⟨f0, f1, f2, f3, f4, f5, f6, f7, f8, f9⟩ := ten_fz hZ8
        obtain ⟨d0, d1, d2, d3, d4, d5, d6, d7, d8, d9⟩ := ten_cells hZ8
        have k0 := h8.c0
        have k1 := h8.c1
        have k2 := h8.c2
        have k3 := h8.c3
        have k4 := h8.c4
        have k5 := h8.c5
        have k6 := h8.c6
        have k7 := h8.c7
        have k8 := h8.c8
        have k9 := h8.c9
        have c10 := h8.c10
        have c11 := h8.c11
        have hlt8 := lt_of_blk h8
        rw [hrv5] at k0
        simp only at k0 k1 k2 k3 k4 k5 k6 k7 k8 k9
        clear h8
        go_wp2_with fail
        have hb8 : Below w1.heap.size w1 w8 := hm8'.below (Nat.le_refl _) (fun k hk c => by omega)
        refine bodyPost_ret (results_cmd (c := { c5 with rv := .slice pv ads.length cv, dv := .slice q dst.length n5 }) rfl rfl (blk_set10 hZ8 _ _ _ _ _ _ _ _ _ _)) rfl ?_
        rw [show ({ c5 with rv := .slice pv ads.length cv, dv := .slice q dst.length n5 } : Cm) = { c5 with dv := .slice q dst.length n5 } by rw [← hrv5]]
        have hms := Mod.set10 (S := (· = w.heap.size)) (B := w.heap.size) (Mod.refl _ w8) (.inl rfl) (.slice pv ads.length cv) (.string ⟨c5.name.toArray⟩) (.bool c5.bang) (.int .u8 c5.reg.toNat) (.int .i64 c5.count) (.slice q dst.length n5) (.string ⟨c5.pat.toArray⟩) (.string ⟨c5.rep.toArray⟩) (.string ⟨c5.flags.toArray⟩) (.string ⟨c5.arg.toArray⟩)
        exact rcmd_ok HPO.out (set10_below (hB1.trans (hb8.mono hsz1')) (Nat.le_refl _) _ _ _ _ _ _ _ _ _ _) ((HV.out.keep hb8).setc hms hZ8) (((HV5.out.modk hm8 (by first | omega | (simp; omega))).base (by first | omega | (simp; omega))).setc hms hZ8)
      · have HPE := Lib.hid (show parseR (.slice pv ads.length cv) s = .error 151 by rw [HP.out]; unfold endL; simp only [HLZ.out])
        have c10 := h8.c10
        have c11 := h8.c11
        have hlt8 := lt_of_blk h8
        clear h8
        go_wp2_with fail
        refine (wrong_any w1.heap.size _ _ 0 151 _ HR8.out).mono ?_
        rintro e w9 ⟨rfl, h9, hm9⟩
        rw [if_pos rfl] at h9
        have hm9' : Mod (· = w1.heap.size) w1 w9 := Mod.trans hm8' hm9
        have c11 := h9.c11
        have hlt9 := lt_of_blk h9
        have hZ8 := hZ1.mod hm9' (by omega)
        clear h9
        obtain ⟨f0, f1, f2, f3, f4, f5, f6, f7, f8, f9⟩ := ten_fz hZ8
        obtain ⟨d0, d1, d2, d3, d4, d5, d6, d7, d8, d9⟩ := ten_cells hZ8
        go_wp2_with fail
        have hne2 : w1.heap.size ≠ w.heap.size := by omega
        go_region_held3 (fun w' => w'.cell? ⟨w1.heap.size, 11, none⟩ = some (.int .i64 151)) (first | (rw [cd_drew, cs_other hne2, cs_other hne2, cs_other hne2, cs_other hne2, cs_other hne2, cs_other hne2, cs_other hne2, cs_other hne2, cs_other hne2, cs_other hne2]; exact c11) | go_keep) (fail)
        all_goals go_wp2_with fail
        all_goals refine bodyPost_ret (results_cmd (c := cmdZ) rfl rfl (cb_drew (blk_set10 hZ8 _ _ _ _ _ _ _ _ _ _))) rfl ?_
        all_goals exact rcmd_err _ HPE.out (set10_below (hB1.trans (((hm9').below (Nat.le_refl _) (fun k hk c => by omega)).mono hsz1')) (Nat.le_refl _) _ _ _ _ _ _ _ _ _ _).drew
    · have hy : y ≠ 33 := by rintro rfl; exact hb33 ⟨u, rfl⟩
      have e33 : ((((⟨(y :: u).toArray⟩ : ByteArray)[0]'(head0 y u)).toNat : Int) == 33) = false := eqF' (b := 33) hy
      clear hy hb33
      go_wp2_with fail
      refine (rmore_any w1.heap.size c1 (y :: u) _ (by exact HR3.out) (hl1000) HDV1.out HN1.out).mono ?_
      rintro e w5 ⟨rfl, hm5, hor⟩
      have hm5' : Mod (· = w1.heap.size) w1 w5 := Mod.trans hm3' hm5
      rcases hmo : moreL c1 (y :: u) with kE | ⟨c5, dst, l5⟩
      · rw [hmo] at hor
        obtain ⟨cE, lE, hlE, hRE⟩ := hor
        have HP := Lib.hid (show parseR (.slice pv ads.length cv) s = .error kE by rw [HP2.out, HB.out]; show endL ads (moreL c1 (y :: u)) = _; rw [hmo]; rfl)
        have hk := moreL_err hmo
        have hmE := hm5'
        clear hmo
        have ek : (kE == 0) = false := by rcases hk with rfl | rfl | rfl <;> decide
        have HNE := Lib.hid (show kE ≠ 0 by rcases hk with rfl | rfl | rfl <;> decide)
        clear hk
        have HRE := Lib.hid hRE
        have c10 := hRE.c10
        have c11 := hRE.c11
        have hltE := lt_of_blk hRE
        clear hRE
        go_wp2_with fail
        refine (rrblanks_any w1.heap.size _ _ kE _ HRE.out hlE).mono ?_
        rintro e w8 ⟨rfl, h8, hm8⟩
        have hm8' : Mod (· = w1.heap.size) w1 w8 := Mod.trans hmE hm8
        have HR8 := Lib.hid h8
        have c10 := h8.c10
        have c11 := h8.c11
        have hlt8 := lt_of_blk h8
        clear h8 hm8
        obtain ⟨lz, hlz⟩ : ∃ lz, blanks lE = lz := ⟨_, rfl⟩
        rw [hlz] at c10
        rw [hlz] at HR8
        clear hlz
        rcases lz with _ | ⟨z, u⟩
        · have hZ8 := hZ1.mod hm8' (by omega)
          obtain ⟨f0, f1, f2, f3, f4, f5, f6, f7, f8, f9⟩ := ten_fz hZ8
          obtain ⟨d0, d1, d2, d3, d4, d5, d6, d7, d8, d9⟩ := ten_cells hZ8
          go_wp2_with fail
          have hne2 : w1.heap.size ≠ w.heap.size := by omega
          go_region_held3 (fun w' => w'.cell? ⟨w1.heap.size, 11, none⟩ = some (.int .i64 kE)) (first | (rw [cd_drew, cs_other hne2, cs_other hne2, cs_other hne2, cs_other hne2, cs_other hne2, cs_other hne2, cs_other hne2, cs_other hne2, cs_other hne2, cs_other hne2]; exact c11) | go_keep) (fail)
          all_goals go_wp2_with fail
          all_goals refine bodyPost_ret (results_cmd (c := cmdZ) rfl rfl (cb_drew (blk_set10 hZ8 _ _ _ _ _ _ _ _ _ _))) rfl ?_
          all_goals exact rcmd_err _ HP.out (set10_below (hB1.trans (((hm8').below (Nat.le_refl _) (fun k hk c => by omega)).mono hsz1')) (Nat.le_refl _) _ _ _ _ _ _ _ _ _ _).drew
        · go_wp2_with fail
          refine (wrong_any w1.heap.size _ _ kE 151 _ HR8.out).mono ?_
          rintro e w9 ⟨rfl, h9, hm9⟩
          rw [if_neg (HNE.out)] at h9
          have hm9' : Mod (· = w1.heap.size) w1 w9 := Mod.trans hm8' hm9
          have c11 := h9.c11
          have hlt9 := lt_of_blk h9
          have hZ8 := hZ1.mod hm9' (by omega)
          clear h9
          obtain ⟨f0, f1, f2, f3, f4, f5, f6, f7, f8, f9⟩ := ten_fz hZ8
          obtain ⟨d0, d1, d2, d3, d4, d5, d6, d7, d8, d9⟩ := ten_cells hZ8
          go_wp2_with fail
          have hne2 : w1.heap.size ≠ w.heap.size := by omega
          go_region_held3 (fun w' => w'.cell? ⟨w1.heap.size, 11, none⟩ = some (.int .i64 kE)) (first | (rw [cd_drew, cs_other hne2, cs_other hne2, cs_other hne2, cs_other hne2, cs_other hne2, cs_other hne2, cs_other hne2, cs_other hne2, cs_other hne2, cs_other hne2]; exact c11) | go_keep) (fail)
          all_goals go_wp2_with fail
          all_goals refine bodyPost_ret (results_cmd (c := cmdZ) rfl rfl (cb_drew (blk_set10 hZ8 _ _ _ _ _ _ _ _ _ _))) rfl ?_
          all_goals exact rcmd_err _ HP.out (set10_below (hB1.trans (((hm9').below (Nat.le_refl _) (fun k hk c => by omega)).mono hsz1')) (Nat.le_refl _) _ _ _ _ _ _ _ _ _ _).drew
      rw [hmo] at hor
      obtain ⟨q, n5, hl5, h5, hv5⟩ := hor
      have hrv5 := (moreL_rv hmo).trans HRV1.out
      have HP := Lib.hid (show parseR (.slice pv ads.length cv) s = endL ads (.ok (c5, dst, l5)) by rw [HP2.out, HB.out]; show endL ads (moreL c1 (y :: u)) = _; rw [hmo])
      have HR5 := Lib.hid h5
      have HV5 := Lib.hid hv5
      have c10 := h5.c10
      have c11 := h5.c11
      have hlt5 := lt_of_blk h5
      clear hmo h5 hv5
      go_wp2_with fail
      refine (rrblanks_any w1.heap.size _ l5 0 _ HR5.out hl5).mono ?_
      rintro e w8 ⟨rfl, h8, hm8⟩
      have hm8' : Mod (· = w1.heap.size) w1 w8 := Mod.trans hm5' hm8
      have HR8 := Lib.hid h8
      obtain ⟨lz, hlz⟩ : ∃ lz, blanks l5 = lz := ⟨_, rfl⟩
      have HLZ := Lib.hid hlz
      rw [hlz] at HR8 h8
      clear hlz
      rcases lz with _ | ⟨z, u⟩
      · have HPO := Lib.hid (show parseR (.slice pv ads.length cv) s = .ok (c5, ads, dst) by rw [HP.out]; unfold endL; simp only [HLZ.out])
        have hZ8 := hZ1.mod hm8' (by omega)
        obtain ⟨f0, f1, f2, f3, f4, f5, f6, f7, f8, f9⟩ := ten_fz hZ8
        obtain ⟨d0, d1, d2, d3, d4, d5, d6, d7, d8, d9⟩ := ten_cells hZ8
        have k0 := h8.c0
        have k1 := h8.c1
        have k2 := h8.c2
        have k3 := h8.c3
        have k4 := h8.c4
        have k5 := h8.c5
        have k6 := h8.c6
        have k7 := h8.c7
        have k8 := h8.c8
        have k9 := h8.c9
        have c10 := h8.c10
        have c11 := h8.c11
        have hlt8 := lt_of_blk h8
        rw [hrv5] at k0
        simp only at k0 k1 k2 k3 k4 k5 k6 k7 k8 k9
        clear h8
        go_wp2_with fail
        have hb8 : Below w1.heap.size w1 w8 := hm8'.below (Nat.le_refl _) (fun k hk c => by omega)
        refine bodyPost_ret (results_cmd (c := { c5 with rv := .slice pv ads.length cv, dv := .slice q dst.length n5 }) rfl rfl (blk_set10 hZ8 _ _ _ _ _ _ _ _ _ _)) rfl ?_
        rw [show ({ c5 with rv := .slice pv ads.length cv, dv := .slice q dst.length n5 } : Cm) = { c5 with dv := .slice q dst.length n5 } by rw [← hrv5]]
        have hms := Mod.set10 (S := (· = w.heap.size)) (B := w.heap.size) (Mod.refl _ w8) (.inl rfl) (.slice pv ads.length cv) (.string ⟨c5.name.toArray⟩) (.bool c5.bang) (.int .u8 c5.reg.toNat) (.int .i64 c5.count) (.slice q dst.length n5) (.string ⟨c5.pat.toArray⟩) (.string ⟨c5.rep.toArray⟩) (.string ⟨c5.flags.toArray⟩) (.string ⟨c5.arg.toArray⟩)
        exact rcmd_ok HPO.out (set10_below (hB1.trans (hb8.mono hsz1')) (Nat.le_refl _) _ _ _ _ _ _ _ _ _ _) ((HV.out.keep hb8).setc hms hZ8) (((HV5.out.modk hm8 (by first | omega | (simp; omega))).base (by first | omega | (simp; omega))).setc hms hZ8)
      · have HPE := Lib.hid (show parseR (.slice pv ads.length cv) s = .error 151 by rw [HP.out]; unfold endL; simp only [HLZ.out])
        have c10 := h8.c10
        have c11 := h8.c11
        have hlt8 := lt_of_blk h8
        clear h8
        go_wp2_with fail
        refine (wrong_any w1.heap.size _ _ 0 151 _ HR8.out).mono ?_
        rintro e w9 ⟨rfl, h9, hm9⟩
        rw [if_pos rfl] at h9
        have hm9' : Mod (· = w1.heap.size) w1 w9 := Mod.trans hm8' hm9
        have c11 := h9.c11
        have hlt9 := lt_of_blk h9
        have hZ8 := hZ1.mod hm9' (by omega)
        clear h9
        obtain ⟨f0, f1, f2, f3, f4, f5, f6, f7, f8, f9⟩ := ten_fz hZ8
        obtain ⟨d0, d1, d2, d3, d4, d5, d6, d7, d8, d9⟩ := ten_cells hZ8
        go_wp2_with fail
        have hne2 : w1.heap.size ≠ w.heap.size := by omega
        go_region_held3 (fun w' => w'.cell? ⟨w1.heap.size, 11, none⟩ = some (.int .i64 151)) (first | (rw [cd_drew, cs_other hne2, cs_other hne2, cs_other hne2, cs_other hne2, cs_other hne2, cs_other hne2, cs_other hne2, cs_other hne2, cs_other hne2, cs_other hne2]; exact c11) | go_keep) (fail)
        all_goals go_wp2_with fail
        all_goals refine bodyPost_ret (results_cmd (c := cmdZ) rfl rfl (cb_drew (blk_set10 hZ8 _ _ _ _ _ _ _ _ _ _))) rfl ?_
        all_goals exact rcmd_err _ HPE.out (set10_below (hB1.trans (((hm9').below (Nat.le_refl _) (fun k hk c => by omega)).mono hsz1')) (Nat.le_refl _) _ _ _ _ _ _ _ _ _ _).drew
end Go.Proofs.YthajagmccaaanaaGreatDoor
