/- cmd.Parse: the walk. -/
import Derived.Test.YthajagmccaaanaaGreatDoorParseC
namespace Go.Proofs.YthajagmccaaanaaGreatDoor
open Go.RowKit

theorem cmdPost_err {s : Bs} {w w' : World} {n : Int} (v : Value) (h : parseR v s = .error n) (hb : Below w.heap.size w w') : CmdPost s w (.returned (.tuple #[cmdV cmdZ, .int .u16 n])) w' :=
  ⟨hb, v, by rw [h]⟩
theorem cmdPost_ok {s : Bs} {w w' : World} {v d : Value} {c : Cm} {ads dst : List Ad} (h : parseR v s = .ok (c, ads, dst)) (hb : Below w.heap.size w w') (h1 : AdsV w.heap.size v ads w') (h2 : AdsV w.heap.size d dst w') :
    CmdPost s w (.returned (.tuple #[cmdV { c with dv := d }, .int .u16 0])) w' :=
  ⟨hb, v, by rw [h]; exact ⟨d, rfl, h1, h2⟩⟩
theorem cb_new (w : World) : CB w.heap.size cmdZ (w.alloc (.cells #[.slice none 0 0, .string ⟨#[]⟩, .bool false, .int .u8 0, .int .i64 0, .slice none 0 0, .string ⟨#[]⟩, .string ⟨#[]⟩, .string ⟨#[]⟩, .string ⟨#[]⟩] 25 (0, 0))) := blk_new _ _
theorem rd_new (w : World) (v : Value) (r : Bs) : RD w.heap.size (cmd0 v) r (w.alloc (.cells #[v, .string ⟨#[]⟩, .bool false, .int .u8 0, .int .i64 (-1), .slice none 0 0, .string ⟨#[]⟩, .string ⟨#[]⟩, .string ⟨#[]⟩, .string ⟨#[]⟩, .string ⟨r.toArray⟩] 40 (0, 0))) := blk_new _ _
theorem new_reader (w : World) (v : Value) (r : Bs) : ∃ w2, w.alloc (.cells #[v, .string ⟨#[]⟩, .bool false, .int .u8 0, .int .i64 (-1), .slice none 0 0, .string ⟨#[]⟩, .string ⟨#[]⟩, .string ⟨#[]⟩, .string ⟨#[]⟩, .string ⟨r.toArray⟩] 40 (0, 0)) = w2 ∧ RD w.heap.size (cmd0 v) r w2 ∧ Mod (fun _ => False) w w2 :=
  ⟨_, rfl, rd_new w v r, (Mod.refl _ w).alloc _⟩
theorem CB.mod {S : Nat → Prop} {a b : World} {B : Nat} {c : Cm} (h : CB B c a) (hm : Mod S a b) (hs : ¬ S B) : CB B c b := hm.get h hs
theorem ten_fz {w : World} {B : Nat} {c : Cm} (h : CB B c w) : w.frozen? ⟨B, 0, none⟩ = false ∧ w.frozen? ⟨B, 1, none⟩ = false ∧ w.frozen? ⟨B, 2, none⟩ = false ∧ w.frozen? ⟨B, 3, none⟩ = false ∧ w.frozen? ⟨B, 4, none⟩ = false ∧ w.frozen? ⟨B, 5, none⟩ = false ∧ w.frozen? ⟨B, 6, none⟩ = false ∧ w.frozen? ⟨B, 7, none⟩ = false ∧ w.frozen? ⟨B, 8, none⟩ = false ∧ w.frozen? ⟨B, 9, none⟩ = false :=
  ⟨ten_frozen h 0, ten_frozen h 1, ten_frozen h 2, ten_frozen h 3, ten_frozen h 4, ten_frozen h 5, ten_frozen h 6, ten_frozen h 7, ten_frozen h 8, ten_frozen h 9⟩
/-- A list of addresses is not touched by what is written into a block of another type. -/
theorem AdsV.set {b : Nat} {a w' : World} {base : Nat} {v : Value} {l : List Ad} (h : AdsV base v l a) (hm : Mod (· = b) a w') {c : Cm} {r : Bs} (hr : RD b c r a) : AdsV base v l w' := by
  obtain ⟨h1, h2⟩ := h
  refine ⟨h1, ?_⟩
  rcases h2 with h2 | ⟨g, cap, cur, hv, hg, hh, rr⟩
  · exact .inl h2
  · refine .inr ⟨g, cap, cur, hv, hg, hm.get hh ?_, rr⟩
    rintro rfl
    unfold RD at hr
    rw [hr] at hh
    cases hh
theorem AdsV.setc {b : Nat} {a w' : World} {base : Nat} {v : Value} {l : List Ad} (h : AdsV base v l a) (hm : Mod (· = b) a w') {c : Cm} (hr : CB b c a) : AdsV base v l w' := by
  obtain ⟨h1, h2⟩ := h
  refine ⟨h1, ?_⟩
  rcases h2 with h2 | ⟨g, cap, cur, hv, hg, hh, rr⟩
  · exact .inl h2
  · refine .inr ⟨g, cap, cur, hv, hg, hm.get hh ?_, rr⟩
    rintro rfl
    unfold CB at hr
    rw [hr] at hh
    cases hh
theorem data_app3 (n : Bs) : ((⟨#[32]⟩ : ByteArray) ++ ⟨n.toArray⟩ ++ ⟨#[32]⟩).data.toList = 32 :: n ++ [32] := by
  simp
theorem contains_bold (n : Bs) (h1 : n ∈ names) (h2 : n ≠ []) (V : World) (m : Int) (hm : V.cell? ⟨2, 0, none⟩ = some (.int .i64 m)) :
    Calls Tryz.prog 12 #[.string ⟨#[32, 106, 32, 112, 117, 32, 103, 32, 110, 111, 114, 109, 32, 100, 32, 121, 32, 117, 32]⟩, .string ((⟨#[32]⟩ : ByteArray) ++ ⟨n.toArray⟩ ++ ⟨#[32]⟩)] V fun e w' => e = .returned (.bool (isBold n)) ∧ w' = V := by
  have := Tryz.strings_Contains ⟨#[32, 106, 32, 112, 117, 32, 103, 32, 110, 111, 114, 109, 32, 100, 32, 121, 32, 117, 32]⟩ ((⟨#[32]⟩ : ByteArray) ++ ⟨n.toArray⟩ ++ ⟨#[32]⟩) m V (by decide) hm
  rw [data_app3, show Lib.contains (⟨#[32, 106, 32, 112, 117, 32, 103, 32, 110, 111, 114, 109, 32, 100, 32, 121, 32, 117, 32]⟩ : ByteArray).data.toList (32 :: n ++ [32]) = isBold n from names_bold n h1 h2] at this
  exact this
theorem mod_below {w a b : World} {x : Nat} (h : Below w.heap.size w a) (hm : Mod (· = x) a b) (hx : w.heap.size ≤ x) : Below w.heap.size w b :=
  h.trans (hm.below h.size (fun k hk he => by omega))
theorem set10_below {w a : World} {B : Nat} (h : Below w.heap.size w a) (hB : w.heap.size ≤ B) (v0 v1 v2 v3 v4 v5 v6 v7 v8 v9 : Value) :
    Below w.heap.size w ((((((((((a.setCell ⟨B, 0, none⟩ v0).setCell ⟨B, 1, none⟩ v1).setCell ⟨B, 2, none⟩ v2).setCell ⟨B, 3, none⟩ v3).setCell ⟨B, 4, none⟩ v4).setCell ⟨B, 5, none⟩ v5).setCell ⟨B, 6, none⟩ v6).setCell ⟨B, 7, none⟩ v7).setCell ⟨B, 8, none⟩ v8).setCell ⟨B, 9, none⟩ v9) :=
  h.trans ((Mod.set10 (S := (· = B)) (Mod.refl _ a) (.inl rfl) v0 v1 v2 v3 v4 v5 v6 v7 v8 v9).below h.size (fun k hk he => by omega))

set_option maxRecDepth 100000 in
set_option maxHeartbeats 8000000 in
theorem cmdParse_any (s : Bs) (w : World) (m : Int) (hm : w.cell? ⟨2, 0, none⟩ = some (.int .i64 m)) (hs : s.length ≤ 1000000) :
    Calls Tryz.prog 5 #[.string ⟨s.toArray⟩] w (CmdPost s w) := by
  have h2lt : 2 < w.heap.size := by
    unfold World.cell? at hm
    cases hh : w.heap[2]? with
    | none => rw [hh] at hm; cases hm
    | some o => exact lt_of_blk hh
  by_cases hl : 1000 < s.length
  · have HR := Lib.hid (show parseR .nilFunc s = .error 3 by unfold parseR; rw [if_pos hl])
    go_enter Tryz.func5, Tryz.ntmps5
    go_wp2_with fail
    refine bodyPost_ret (results_cmd (c := cmdZ) rfl rfl (cb_new w)) rfl ?_
    exact cmdPost_err _ HR.out ((Below.refl _ w).alloc (Nat.le_refl _) _)
  · have h1000 : s.length ≤ 1000 := by omega
    have HP0 := Lib.hid (show ∀ v, parseR v s = match rangeL s with
      | none => .error 141
      | some (ads, r) => bodyL v ads r from fun v => by unfold parseR; exact if_neg hl)
    go_enter Tryz.func5, Tryz.ntmps5
    go_wp2_with fail
    refine (parse_any ⟨s.toArray⟩ _ (by simpa [ByteArray.size] using h1000)).mono ?_
    rintro e w1 ⟨hb1, hp⟩
    have hZ1 : CB w.heap.size cmdZ w1 := (hb1.block _ (lt_of_blk (cb_new w))).trans (cb_new w)
    have hB1 : Below w.heap.size w w1 := ((Below.refl _ w).alloc (Nat.le_refl _) _).trans (hb1.mono (by simp))
    have hsz1 : w.heap.size < w1.heap.size := lt_of_blk hZ1
    obtain ⟨f0, f1, f2, f3, f4, f5, f6, f7, f8, f9⟩ := ten_fz hZ1
    obtain ⟨d0, d1, d2, d3, d4, d5, d6, d7, d8, d9⟩ := ten_cells hZ1
    have hss : (⟨s.toArray⟩ : ByteArray).data.toList = s := rfl
    rw [hss] at hp
    rcases hr : rangeL s with _ | ⟨ads, r⟩
    · rw [hr] at hp
      subst hp
      have v := Value.nilFunc
      have HE := Lib.hid (show parseR v s = .error 141 by rw [HP0.out, hr])
      clear hr
      go_wp2_with fail
      refine bodyPost_ret (results_cmd (c := cmdZ) rfl rfl (blk_set10 hZ1 _ _ _ _ _ _ _ _ _ _)) rfl ?_
      exact cmdPost_err v HE.out (set10_below hB1 (Nat.le_refl _) _ _ _ _ _ _ _ _ _ _)
    · rw [hr] at hp
      obtain ⟨v, rfl, hv, k, hk, hrk⟩ := hp
      obtain ⟨pv, cv, rfl⟩ := hv.shape
      have hv1 : AdsV w.heap.size (.slice pv ads.length cv) ads w1 := hv.base (by simp)
      have hkl : k ≤ s.length := by simpa [ByteArray.size] using hk
      have hrl : r.length = s.length - k := by rw [hrk]; simp
      have hrk' : r = s.drop k := hrk
      have hkk : (⟨s.toArray⟩ : ByteArray).size - r.length = k := by
        rw [hrl]
        show s.toArray.size - _ = _
        simp
        omega
      rw [hkk]
      have HP1 := Lib.hid (show parseR (.slice pv ads.length cv) s = bodyL (.slice pv ads.length cv) ads r by rw [HP0.out, hr])
      clear hr hkk hv
      go_wp2_with fail
      rw [ex_drop, ← hrk']
      obtain ⟨w2, e2, h2, hm2⟩ := new_reader w1 (.slice pv ads.length cv) r
      rw [e2]
      have hZ2 := hZ1.mod hm2 (fun c => c)
      have hv2 := hv1.mod hm2 (fun _ _ c => c)
      have hB2 : Below w.heap.size w w2 := hB1.trans (hm2.below (by omega) (fun _ _ c => c))
      clear e2 hm2 hZ1 hv1 hB1 hb1
      obtain ⟨b, hbb⟩ : ∃ b, w1.heap.size = b := ⟨_, rfl⟩
      rw [hbb] at h2 hsz1 ⊢
      clear hbb
      have hHP1 := HP1
      refine (name_any b (cmd0 (.slice pv ads.length cv)) r _ h2 (by omega)).mono ?_
      rintro e w3 ⟨hm3, h3⟩
      have hZ3 := hZ2.mod hm3 (by omega)
      have hB3 := mod_below hB2 hm3 (by omega)
      have hv3 : AdsV w.heap.size (.slice pv ads.length cv) ads w3 := hv2.set hm3 h2
      obtain ⟨f0, f1, f2, f3, f4, f5, f6, f7, f8, f9⟩ := ten_fz hZ3
      obtain ⟨d0, d1, d2, d3, d4, d5, d6, d7, d8, d9⟩ := ten_cells hZ3
      rcases hn : nameC (cmd0 (.slice pv ads.length cv)) r with _ | ⟨c, l⟩
      · rw [hn] at h3
        subst h3
        have HE := Lib.hid (show parseR (.slice pv ads.length cv) s = .error 150 by rw [HP1.out]; unfold bodyL; rw [hn])
        clear hn
        go_wp2_with fail
        refine bodyPost_ret (results_cmd (c := cmdZ) rfl rfl (blk_set10 hZ3 _ _ _ _ _ _ _ _ _ _)) rfl ?_
        exact cmdPost_err (.slice pv ads.length cv) HE.out (set10_below hB3 (Nat.le_refl _) _ _ _ _ _ _ _ _ _ _)
      · rw [hn] at h3
        obtain ⟨rfl, h3⟩ := h3
        obtain ⟨n1, n2, n3, n4⟩ := nameC_names hn
        have HP3 := Lib.hid (show parseR (.slice pv ads.length cv) s = endL ads (moreL (bangC c l).1 (bangC c l).2) by rw [HP1.out]; unfold bodyL; rw [hn])
        clear hn HP1 hHP1
        have c10 := h3.c10
        have hpx : ∀ V, Calls Tryz.prog 11 #[.string ⟨l.toArray⟩, .string ⟨#[33]⟩] V fun e w' => e = .returned (.bool (Lib.hasPrefix l [33])) ∧ w' = V := fun V => Tryz.strings_HasPrefix ⟨l.toArray⟩ ⟨#[33]⟩ V
        cases hp : Lib.hasPrefix l [33] with
        | false =>
          rw [hp] at hpx
          rw [bangC_no (.inl hp)] at HP3
          have HP := HP3
          clear hp HP3
          go_wp2_with fail
          refine (hpx _).mono ?_
          rintro e w4 ⟨rfl, rfl⟩
          go_wp2_with fail
          have h4 := h3
          have hl4 : l.length ≤ 1000 := by omega
          have hd4 := n2
          have hn4 := n1
          have hr4 := n3
          have hZ4 := hZ3
          have hB4 := hB3
          have hv4 := hv3
          have hbz : b ≠ w.heap.size := by omega
          refine (more_any b _ _ _ h4 hl4 hd4 hn4).mono ?_
          rintro e w5 ⟨hm5, h5⟩
          have hZ5 := hZ4.mod hm5 (by omega)
          have hB5 := mod_below hB4 hm5 (by omega)
          have hv5 := hv4.set hm5 h4
          have hsz4 := hB4.size
          clear hm5
          obtain ⟨f0, f1, f2, f3, f4, f5, f6, f7, f8, f9⟩ := ten_fz hZ5
          obtain ⟨d0, d1, d2, d3, d4, d5, d6, d7, d8, d9⟩ := ten_cells hZ5
          rcases hmo : moreL c l with n | q
          · rw [hmo] at h5
            replace h5 : e = .returned (.int .u16 n) := h5
            subst h5
            have HE := Lib.hid (show parseR (.slice pv ads.length cv) s = .error n by rw [HP.out, hmo]; rfl)
            have hn0 := moreL_err hmo
            have hnz : (n != 0) = true := by rw [bne_iff_ne]; omega
            have hnz' : (n == 0) = false := by rw [beq_eq_false_iff_ne]; omega
            clear hmo hn0
            go_wp2_with fail
            refine bodyPost_ret (results_cmd (c := cmdZ) rfl rfl (blk_set10 hZ5 _ _ _ _ _ _ _ _ _ _)) rfl ?_
            exact cmdPost_err (.slice pv ads.length cv) HE.out (set10_below hB5 (Nat.le_refl _) _ _ _ _ _ _ _ _ _ _)
          · obtain ⟨c6, dst, r6⟩ := q
            rw [hmo] at h5
            replace h5 : e = .returned (.int .u16 0) ∧ ∃ d, RD b { c6 with dv := d } r6 w5 ∧ AdsV _ d dst w5 := h5
            obtain ⟨rfl, d, h5, hd5⟩ := h5
            have HP6 := Lib.hid (show parseR (.slice pv ads.length cv) s = endL ads (.ok (c6, dst, r6)) by rw [HP.out, hmo])
            have hrv := (moreL_rv hmo).trans hr4
            have hd5' : AdsV w.heap.size d dst w5 := hd5.base hsz4
            obtain ⟨pd, cd, rfl⟩ := hd5.shape
            clear hmo hd5
            go_wp2_with fail
            refine (skip_any b _ r6 _ h5).mono ?_
            rintro e w7 ⟨rfl, h7, hm7⟩
            have hZ7 := hZ5.mod hm7 (by omega)
            have hB7 := mod_below hB5 hm7 (by omega)
            have hv7 := hv5.set hm7 h5
            have hd7 := hd5'.set hm7 h5
            clear hm7
            obtain ⟨f0, f1, f2, f3, f4, f5, f6, f7, f8, f9⟩ := ten_fz hZ7
            obtain ⟨d0, d1, d2, d3, d4, d5, d6, d7, d8, d9⟩ := ten_cells hZ7
            rcases hbl : blanks r6 with _ | ⟨y, t7⟩
            · rw [hbl] at h7
              have HP7 := Lib.hid (show parseR (.slice pv ads.length cv) s = .ok (c6, ads, dst) by rw [HP6.out]; unfold endL; simp only [hbl])
              have k0 := h7.c0
              have k1 := h7.c1
              have k2 := h7.c2
              have k3 := h7.c3
              have k4 := h7.c4
              have k5 := h7.c5
              have k6 := h7.c6
              have k7 := h7.c7
              have k8 := h7.c8
              have k9 := h7.c9
              have k10 := h7.c10
              simp only at k0 k1 k2 k3 k4 k5 k6 k7 k8 k9
              have k0' : w7.cell? ⟨b, 0, none⟩ = some (Value.slice pv ads.length cv) := by rw [k0, hrv]
              clear hbl k0
              go_wp2_with fail
              refine bodyPost_ret (results_cmd (c := ⟨.slice pv ads.length cv, c6.name, c6.bang, c6.reg, c6.count, .slice pd dst.length cd, c6.pat, c6.rep, c6.flags, c6.arg⟩) rfl rfl (blk_set10 hZ7 _ _ _ _ _ _ _ _ _ _)) rfl ?_
              have hc6 : (⟨.slice pv ads.length cv, c6.name, c6.bang, c6.reg, c6.count, .slice pd dst.length cd, c6.pat, c6.rep, c6.flags, c6.arg⟩ : Cm) = { c6 with dv := .slice pd dst.length cd } := by rw [← hrv]
              rw [hc6]
              have hmf := Mod.set10 (S := (· = w.heap.size)) (B := w.heap.size) (Mod.refl _ w7) (.inl rfl) (.slice pv ads.length cv) (.string ⟨c6.name.toArray⟩) (.bool c6.bang) (.int .u8 c6.reg.toNat) (.int .i64 c6.count) (.slice pd dst.length cd) (.string ⟨c6.pat.toArray⟩) (.string ⟨c6.rep.toArray⟩) (.string ⟨c6.flags.toArray⟩) (.string ⟨c6.arg.toArray⟩)
              exact cmdPost_ok HP7.out (set10_below hB7 (Nat.le_refl _) _ _ _ _ _ _ _ _ _ _) (hv7.setc hmf hZ7) (hd7.setc hmf hZ7)
            · rw [hbl] at h7
              have HE := Lib.hid (show parseR (.slice pv ads.length cv) s = .error 151 by rw [HP6.out]; unfold endL; simp only [hbl])
              have k10 := h7.c10
              clear hbl
              go_wp2_with fail
              refine bodyPost_ret (results_cmd (c := cmdZ) rfl rfl (blk_set10 hZ7 _ _ _ _ _ _ _ _ _ _)) rfl ?_
              exact cmdPost_err (.slice pv ads.length cv) HE.out (set10_below hB7 (Nat.le_refl _) _ _ _ _ _ _ _ _ _ _)
        | true =>
          rw [hp] at hpx
          by_cases hne : c.name = []
          · rw [bangC_no (.inr (by rw [hne]; rfl))] at HP3
            have HP := HP3
            have c1 := h3.cn hne
            clear hp HP3
            go_wp2_with fail
            refine (hpx _).mono ?_
            rintro e w4 ⟨rfl, rfl⟩
            go_wp2_with fail
            have h4 := h3
            have hl4 : l.length ≤ 1000 := by omega
            have hd4 := n2
            have hn4 := n1
            have hr4 := n3
            have hZ4 := hZ3
            have hB4 := hB3
            have hv4 := hv3
            have hbz : b ≠ w.heap.size := by omega
            refine (more_any b _ _ _ h4 hl4 hd4 hn4).mono ?_
            rintro e w5 ⟨hm5, h5⟩
            have hZ5 := hZ4.mod hm5 (by omega)
            have hB5 := mod_below hB4 hm5 (by omega)
            have hv5 := hv4.set hm5 h4
            have hsz4 := hB4.size
            clear hm5
            obtain ⟨f0, f1, f2, f3, f4, f5, f6, f7, f8, f9⟩ := ten_fz hZ5
            obtain ⟨d0, d1, d2, d3, d4, d5, d6, d7, d8, d9⟩ := ten_cells hZ5
            rcases hmo : moreL c l with n | q
            · rw [hmo] at h5
              replace h5 : e = .returned (.int .u16 n) := h5
              subst h5
              have HE := Lib.hid (show parseR (.slice pv ads.length cv) s = .error n by rw [HP.out, hmo]; rfl)
              have hn0 := moreL_err hmo
              have hnz : (n != 0) = true := by rw [bne_iff_ne]; omega
              have hnz' : (n == 0) = false := by rw [beq_eq_false_iff_ne]; omega
              clear hmo hn0
              go_wp2_with fail
              refine bodyPost_ret (results_cmd (c := cmdZ) rfl rfl (blk_set10 hZ5 _ _ _ _ _ _ _ _ _ _)) rfl ?_
              exact cmdPost_err (.slice pv ads.length cv) HE.out (set10_below hB5 (Nat.le_refl _) _ _ _ _ _ _ _ _ _ _)
            · obtain ⟨c6, dst, r6⟩ := q
              rw [hmo] at h5
              replace h5 : e = .returned (.int .u16 0) ∧ ∃ d, RD b { c6 with dv := d } r6 w5 ∧ AdsV _ d dst w5 := h5
              obtain ⟨rfl, d, h5, hd5⟩ := h5
              have HP6 := Lib.hid (show parseR (.slice pv ads.length cv) s = endL ads (.ok (c6, dst, r6)) by rw [HP.out, hmo])
              have hrv := (moreL_rv hmo).trans hr4
              have hd5' : AdsV w.heap.size d dst w5 := hd5.base hsz4
              obtain ⟨pd, cd, rfl⟩ := hd5.shape
              clear hmo hd5
              go_wp2_with fail
              refine (skip_any b _ r6 _ h5).mono ?_
              rintro e w7 ⟨rfl, h7, hm7⟩
              have hZ7 := hZ5.mod hm7 (by omega)
              have hB7 := mod_below hB5 hm7 (by omega)
              have hv7 := hv5.set hm7 h5
              have hd7 := hd5'.set hm7 h5
              clear hm7
              obtain ⟨f0, f1, f2, f3, f4, f5, f6, f7, f8, f9⟩ := ten_fz hZ7
              obtain ⟨d0, d1, d2, d3, d4, d5, d6, d7, d8, d9⟩ := ten_cells hZ7
              rcases hbl : blanks r6 with _ | ⟨y, t7⟩
              · rw [hbl] at h7
                have HP7 := Lib.hid (show parseR (.slice pv ads.length cv) s = .ok (c6, ads, dst) by rw [HP6.out]; unfold endL; simp only [hbl])
                have k0 := h7.c0
                have k1 := h7.c1
                have k2 := h7.c2
                have k3 := h7.c3
                have k4 := h7.c4
                have k5 := h7.c5
                have k6 := h7.c6
                have k7 := h7.c7
                have k8 := h7.c8
                have k9 := h7.c9
                have k10 := h7.c10
                simp only at k0 k1 k2 k3 k4 k5 k6 k7 k8 k9
                have k0' : w7.cell? ⟨b, 0, none⟩ = some (Value.slice pv ads.length cv) := by rw [k0, hrv]
                clear hbl k0
                go_wp2_with fail
                refine bodyPost_ret (results_cmd (c := ⟨.slice pv ads.length cv, c6.name, c6.bang, c6.reg, c6.count, .slice pd dst.length cd, c6.pat, c6.rep, c6.flags, c6.arg⟩) rfl rfl (blk_set10 hZ7 _ _ _ _ _ _ _ _ _ _)) rfl ?_
                have hc6 : (⟨.slice pv ads.length cv, c6.name, c6.bang, c6.reg, c6.count, .slice pd dst.length cd, c6.pat, c6.rep, c6.flags, c6.arg⟩ : Cm) = { c6 with dv := .slice pd dst.length cd } := by rw [← hrv]
                rw [hc6]
                have hmf := Mod.set10 (S := (· = w.heap.size)) (B := w.heap.size) (Mod.refl _ w7) (.inl rfl) (.slice pv ads.length cv) (.string ⟨c6.name.toArray⟩) (.bool c6.bang) (.int .u8 c6.reg.toNat) (.int .i64 c6.count) (.slice pd dst.length cd) (.string ⟨c6.pat.toArray⟩) (.string ⟨c6.rep.toArray⟩) (.string ⟨c6.flags.toArray⟩) (.string ⟨c6.arg.toArray⟩)
                exact cmdPost_ok HP7.out (set10_below hB7 (Nat.le_refl _) _ _ _ _ _ _ _ _ _ _) (hv7.setc hmf hZ7) (hd7.setc hmf hZ7)
              · rw [hbl] at h7
                have HE := Lib.hid (show parseR (.slice pv ads.length cv) s = .error 151 by rw [HP6.out]; unfold endL; simp only [hbl])
                have k10 := h7.c10
                clear hbl
                go_wp2_with fail
                refine bodyPost_ret (results_cmd (c := cmdZ) rfl rfl (blk_set10 hZ7 _ _ _ _ _ _ _ _ _ _)) rfl ?_
                exact cmdPost_err (.slice pv ads.length cv) HE.out (set10_below hB7 (Nat.le_refl _) _ _ _ _ _ _ _ _ _ _)
          · have c1 := h3.c1
            have hnl := names_len _ n1
            have hne2 : c.name.isEmpty = false := by cases hcn : c.name with
              | nil => exact absurd hcn hne
              | cons _ _ => rfl
            have hne1 : c.name.length ≠ 0 := fun hh => hne (List.length_eq_zero_iff.1 hh)
            have hm3' : w3.cell? ⟨2, 0, none⟩ = some (.int .i64 m) := ((hB3.cell h2lt).trans hm)
            have hct := contains_bold c.name n1 hne w3 m hm3'
            obtain ⟨t, rfl⟩ := prefix1 hp
            clear hp
            go_wp2_with fail
            refine (hpx _).mono ?_
            rintro e w4 ⟨rfl, rfl⟩
            go_wp2_with fail
            refine hct.mono ?_
            rintro e w5 ⟨rfl, rfl⟩
            cases hbo : isBold c.name with
            | false =>
              rw [bangC_no (.inr hbo)] at HP3
              have HP := HP3
              clear hct HP3 hbo
              go_wp2_with fail
              have h4 := h3
              have hl4 : (33 :: t).length ≤ 1000 := by omega
              have hd4 := n2
              have hn4 := n1
              have hr4 := n3
              have hZ4 := hZ3
              have hB4 := hB3
              have hv4 := hv3
              have hbz : b ≠ w.heap.size := by omega
              refine (more_any b _ _ _ h4 hl4 hd4 hn4).mono ?_
              rintro e w5 ⟨hm5, h5⟩
              have hZ5 := hZ4.mod hm5 (by omega)
              have hB5 := mod_below hB4 hm5 (by omega)
              have hv5 := hv4.set hm5 h4
              have hsz4 := hB4.size
              clear hm5
              obtain ⟨f0, f1, f2, f3, f4, f5, f6, f7, f8, f9⟩ := ten_fz hZ5
              obtain ⟨d0, d1, d2, d3, d4, d5, d6, d7, d8, d9⟩ := ten_cells hZ5
              rcases hmo : moreL c (33 :: t) with n | q
              · rw [hmo] at h5
                replace h5 : e = .returned (.int .u16 n) := h5
                subst h5
                have HE := Lib.hid (show parseR (.slice pv ads.length cv) s = .error n by rw [HP.out, hmo]; rfl)
                have hn0 := moreL_err hmo
                have hnz : (n != 0) = true := by rw [bne_iff_ne]; omega
                have hnz' : (n == 0) = false := by rw [beq_eq_false_iff_ne]; omega
                clear hmo hn0
                go_wp2_with fail
                refine bodyPost_ret (results_cmd (c := cmdZ) rfl rfl (blk_set10 hZ5 _ _ _ _ _ _ _ _ _ _)) rfl ?_
                exact cmdPost_err (.slice pv ads.length cv) HE.out (set10_below hB5 (Nat.le_refl _) _ _ _ _ _ _ _ _ _ _)
              · obtain ⟨c6, dst, r6⟩ := q
                rw [hmo] at h5
                replace h5 : e = .returned (.int .u16 0) ∧ ∃ d, RD b { c6 with dv := d } r6 w5 ∧ AdsV _ d dst w5 := h5
                obtain ⟨rfl, d, h5, hd5⟩ := h5
                have HP6 := Lib.hid (show parseR (.slice pv ads.length cv) s = endL ads (.ok (c6, dst, r6)) by rw [HP.out, hmo])
                have hrv := (moreL_rv hmo).trans hr4
                have hd5' : AdsV w.heap.size d dst w5 := hd5.base hsz4
                obtain ⟨pd, cd, rfl⟩ := hd5.shape
                clear hmo hd5
                go_wp2_with fail
                refine (skip_any b _ r6 _ h5).mono ?_
                rintro e w7 ⟨rfl, h7, hm7⟩
                have hZ7 := hZ5.mod hm7 (by omega)
                have hB7 := mod_below hB5 hm7 (by omega)
                have hv7 := hv5.set hm7 h5
                have hd7 := hd5'.set hm7 h5
                clear hm7
                obtain ⟨f0, f1, f2, f3, f4, f5, f6, f7, f8, f9⟩ := ten_fz hZ7
                obtain ⟨d0, d1, d2, d3, d4, d5, d6, d7, d8, d9⟩ := ten_cells hZ7
                rcases hbl : blanks r6 with _ | ⟨y, t7⟩
                · rw [hbl] at h7
                  have HP7 := Lib.hid (show parseR (.slice pv ads.length cv) s = .ok (c6, ads, dst) by rw [HP6.out]; unfold endL; simp only [hbl])
                  have k0 := h7.c0
                  have k1 := h7.c1
                  have k2 := h7.c2
                  have k3 := h7.c3
                  have k4 := h7.c4
                  have k5 := h7.c5
                  have k6 := h7.c6
                  have k7 := h7.c7
                  have k8 := h7.c8
                  have k9 := h7.c9
                  have k10 := h7.c10
                  simp only at k0 k1 k2 k3 k4 k5 k6 k7 k8 k9
                  have k0' : w7.cell? ⟨b, 0, none⟩ = some (Value.slice pv ads.length cv) := by rw [k0, hrv]
                  clear hbl k0
                  go_wp2_with fail
                  refine bodyPost_ret (results_cmd (c := ⟨.slice pv ads.length cv, c6.name, c6.bang, c6.reg, c6.count, .slice pd dst.length cd, c6.pat, c6.rep, c6.flags, c6.arg⟩) rfl rfl (blk_set10 hZ7 _ _ _ _ _ _ _ _ _ _)) rfl ?_
                  have hc6 : (⟨.slice pv ads.length cv, c6.name, c6.bang, c6.reg, c6.count, .slice pd dst.length cd, c6.pat, c6.rep, c6.flags, c6.arg⟩ : Cm) = { c6 with dv := .slice pd dst.length cd } := by rw [← hrv]
                  rw [hc6]
                  have hmf := Mod.set10 (S := (· = w.heap.size)) (B := w.heap.size) (Mod.refl _ w7) (.inl rfl) (.slice pv ads.length cv) (.string ⟨c6.name.toArray⟩) (.bool c6.bang) (.int .u8 c6.reg.toNat) (.int .i64 c6.count) (.slice pd dst.length cd) (.string ⟨c6.pat.toArray⟩) (.string ⟨c6.rep.toArray⟩) (.string ⟨c6.flags.toArray⟩) (.string ⟨c6.arg.toArray⟩)
                  exact cmdPost_ok HP7.out (set10_below hB7 (Nat.le_refl _) _ _ _ _ _ _ _ _ _ _) (hv7.setc hmf hZ7) (hd7.setc hmf hZ7)
                · rw [hbl] at h7
                  have HE := Lib.hid (show parseR (.slice pv ads.length cv) s = .error 151 by rw [HP6.out]; unfold endL; simp only [hbl])
                  have k10 := h7.c10
                  clear hbl
                  go_wp2_with fail
                  refine bodyPost_ret (results_cmd (c := cmdZ) rfl rfl (blk_set10 hZ7 _ _ _ _ _ _ _ _ _ _)) rfl ?_
                  exact cmdPost_err (.slice pv ads.length cv) HE.out (set10_below hB7 (Nat.le_refl _) _ _ _ _ _ _ _ _ _ _)
            | true =>
              rw [bangC_yes hbo] at HP3
              have HP := HP3
              have c2 := h3.c2
              have f2' := h3.fz 2
              clear hct HP3 hbo
              go_wp2_with fail
              refine (cut1_any b { c with bang := true } 33 t _ (h3.setBang true) (by omega)).mono ?_
              rintro e w6 ⟨rfl, h4, hm6⟩
              have hm6' : Mod (· = b) w5 w6 := ((Mod.refl _ w5).set1 2 _).trans hm6
              have hl4 : t.length ≤ 1000 := by simp at n4; omega
              have hd4 : ({ c with bang := true } : Cm).dv = .slice none 0 0 := n2
              have hn4 : ({ c with bang := true } : Cm).name ∈ names := n1
              have hr4 : ({ c with bang := true } : Cm).rv = .slice pv ads.length cv := n3
              have hZ4 := hZ3.mod hm6' (by omega)
              have hB4 := mod_below hB3 hm6' (by omega)
              have hv4 := hv3.set hm6' h3
              clear hm6 hm6' h3 hZ3 hB3 hv3
              go_wp2_with fail
              have hbz : b ≠ w.heap.size := by omega
              refine (more_any b _ _ _ h4 hl4 hd4 hn4).mono ?_
              rintro e w5 ⟨hm5, h5⟩
              have hZ5 := hZ4.mod hm5 (by omega)
              have hB5 := mod_below hB4 hm5 (by omega)
              have hv5 := hv4.set hm5 h4
              have hsz4 := hB4.size
              clear hm5
              obtain ⟨f0, f1, f2, f3, f4, f5, f6, f7, f8, f9⟩ := ten_fz hZ5
              obtain ⟨d0, d1, d2, d3, d4, d5, d6, d7, d8, d9⟩ := ten_cells hZ5
              rcases hmo : moreL { c with bang := true } t with n | q
              · rw [hmo] at h5
                replace h5 : e = .returned (.int .u16 n) := h5
                subst h5
                have HE := Lib.hid (show parseR (.slice pv ads.length cv) s = .error n by rw [HP.out, hmo]; rfl)
                have hn0 := moreL_err hmo
                have hnz : (n != 0) = true := by rw [bne_iff_ne]; omega
                have hnz' : (n == 0) = false := by rw [beq_eq_false_iff_ne]; omega
                clear hmo hn0
                go_wp2_with fail
                refine bodyPost_ret (results_cmd (c := cmdZ) rfl rfl (blk_set10 hZ5 _ _ _ _ _ _ _ _ _ _)) rfl ?_
                exact cmdPost_err (.slice pv ads.length cv) HE.out (set10_below hB5 (Nat.le_refl _) _ _ _ _ _ _ _ _ _ _)
              · obtain ⟨c6, dst, r6⟩ := q
                rw [hmo] at h5
                replace h5 : e = .returned (.int .u16 0) ∧ ∃ d, RD b { c6 with dv := d } r6 w5 ∧ AdsV _ d dst w5 := h5
                obtain ⟨rfl, d, h5, hd5⟩ := h5
                have HP6 := Lib.hid (show parseR (.slice pv ads.length cv) s = endL ads (.ok (c6, dst, r6)) by rw [HP.out, hmo])
                have hrv := (moreL_rv hmo).trans hr4
                have hd5' : AdsV w.heap.size d dst w5 := hd5.base hsz4
                obtain ⟨pd, cd, rfl⟩ := hd5.shape
                clear hmo hd5
                go_wp2_with fail
                refine (skip_any b _ r6 _ h5).mono ?_
                rintro e w7 ⟨rfl, h7, hm7⟩
                have hZ7 := hZ5.mod hm7 (by omega)
                have hB7 := mod_below hB5 hm7 (by omega)
                have hv7 := hv5.set hm7 h5
                have hd7 := hd5'.set hm7 h5
                clear hm7
                obtain ⟨f0, f1, f2, f3, f4, f5, f6, f7, f8, f9⟩ := ten_fz hZ7
                obtain ⟨d0, d1, d2, d3, d4, d5, d6, d7, d8, d9⟩ := ten_cells hZ7
                rcases hbl : blanks r6 with _ | ⟨y, t7⟩
                · rw [hbl] at h7
                  have HP7 := Lib.hid (show parseR (.slice pv ads.length cv) s = .ok (c6, ads, dst) by rw [HP6.out]; unfold endL; simp only [hbl])
                  have k0 := h7.c0
                  have k1 := h7.c1
                  have k2 := h7.c2
                  have k3 := h7.c3
                  have k4 := h7.c4
                  have k5 := h7.c5
                  have k6 := h7.c6
                  have k7 := h7.c7
                  have k8 := h7.c8
                  have k9 := h7.c9
                  have k10 := h7.c10
                  simp only at k0 k1 k2 k3 k4 k5 k6 k7 k8 k9
                  have k0' : w7.cell? ⟨b, 0, none⟩ = some (Value.slice pv ads.length cv) := by rw [k0, hrv]
                  clear hbl k0
                  go_wp2_with fail
                  refine bodyPost_ret (results_cmd (c := ⟨.slice pv ads.length cv, c6.name, c6.bang, c6.reg, c6.count, .slice pd dst.length cd, c6.pat, c6.rep, c6.flags, c6.arg⟩) rfl rfl (blk_set10 hZ7 _ _ _ _ _ _ _ _ _ _)) rfl ?_
                  have hc6 : (⟨.slice pv ads.length cv, c6.name, c6.bang, c6.reg, c6.count, .slice pd dst.length cd, c6.pat, c6.rep, c6.flags, c6.arg⟩ : Cm) = { c6 with dv := .slice pd dst.length cd } := by rw [← hrv]
                  rw [hc6]
                  have hmf := Mod.set10 (S := (· = w.heap.size)) (B := w.heap.size) (Mod.refl _ w7) (.inl rfl) (.slice pv ads.length cv) (.string ⟨c6.name.toArray⟩) (.bool c6.bang) (.int .u8 c6.reg.toNat) (.int .i64 c6.count) (.slice pd dst.length cd) (.string ⟨c6.pat.toArray⟩) (.string ⟨c6.rep.toArray⟩) (.string ⟨c6.flags.toArray⟩) (.string ⟨c6.arg.toArray⟩)
                  exact cmdPost_ok HP7.out (set10_below hB7 (Nat.le_refl _) _ _ _ _ _ _ _ _ _ _) (hv7.setc hmf hZ7) (hd7.setc hmf hZ7)
                · rw [hbl] at h7
                  have HE := Lib.hid (show parseR (.slice pv ads.length cv) s = .error 151 by rw [HP6.out]; unfold endL; simp only [hbl])
                  have k10 := h7.c10
                  clear hbl
                  go_wp2_with fail
                  refine bodyPost_ret (results_cmd (c := cmdZ) rfl rfl (blk_set10 hZ7 _ _ _ _ _ _ _ _ _ _)) rfl ?_
                  exact cmdPost_err (.slice pv ads.length cv) HE.out (set10_below hB7 (Nat.le_refl _) _ _ _ _ _ _ _ _ _ _)
end Go.Proofs.YthajagmccaaanaaGreatDoor
