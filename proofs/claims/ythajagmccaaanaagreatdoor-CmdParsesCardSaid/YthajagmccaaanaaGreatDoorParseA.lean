/- addr.Parse. -/
import Derived.Test.YthajagmccaaanaaGreatDoorOne
import Derived.Deep.CutBlock
namespace Go.Proofs.YthajagmccaaanaaGreatDoor
open Go.RowKit

def adsCells (l : List Ad) : List Value := l.flatMap adCells
theorem adCells_len (a : Ad) : (adCells a).length = 6 := rfl
theorem adsCells_len (l : List Ad) : (adsCells l).length = l.length * 6 := by
  induction l with
  | nil => rfl
  | cons a l ih =>
    simp only [adsCells, List.flatMap_cons, List.length_append, adCells_len, List.length_cons] at ih ⊢
    rw [ih]
    omega
theorem adsCells_snoc (l : List Ad) (a : Ad) : adsCells (l ++ [a]) = adsCells l ++ adCells a := by simp [adsCells]

/-- A value that reads as a list of addresses, in blocks from base on. -/
def AdsV (base : Nat) (v : Value) (l : List Ad) (w : World) : Prop := w.ownsRow base 58 6 v l.length (adsCells l)

theorem ownsRow_mod {S : Nat → Prop} {a b : World} {base : Nat} {e : TypeId} {size : Nat} {v : Value} {n : Nat} {xs : List Value} (h : a.ownsRow base e size v n xs) (hm : Mod S a b) (hs : ∀ k, base ≤ k → ¬ S k) : b.ownsRow base e size v n xs := by
  obtain ⟨h1, h2⟩ := h
  refine ⟨h1, ?_⟩
  rcases h2 with h2 | ⟨g, cap, cur, hv, hg, hh, r⟩
  · exact .inl h2
  · exact .inr ⟨g, cap, cur, hv, hg, hm.get hh (hs g hg), r⟩
theorem AdsV.mod {S : Nat → Prop} {a b : World} {base : Nat} {v : Value} {l : List Ad} (h : AdsV base v l a) (hm : Mod S a b) (hs : ∀ k, base ≤ k → ¬ S k) : AdsV base v l b := ownsRow_mod h hm hs
theorem AdsV.own_lt {base : Nat} {v : Value} {l : List Ad} {w : World} (h : AdsV base v l w) : ∀ k, v.ownBlock = some k → base ≤ k ∧ k < w.heap.size := World.ownsRow.lt h
theorem Mod.of_grown {a b : World} {row : Option Nat} (h : a.grownBy b row) : Mod (fun k => row = some k) a b := ⟨h.os, h.tape, h.output, h.size, fun k hk hs => h.block k hk (fun c => hs c.symm)⟩
theorem AdsV.shape {base : Nat} {v : Value} {l : List Ad} {w : World} (h : AdsV base v l w) : ∃ p c, v = .slice p l.length c := by
  rcases h.2 with ⟨rfl, h0⟩ | ⟨g, cap, cur, rfl, _⟩
  · exact ⟨none, 0, by rw [h0]⟩
  · exact ⟨_, _, rfl⟩
theorem adCells_one (a : Ad) : ∀ u ∈ adCells a, u.oneCell' = true := by
  intro u hu
  simp only [adCells, List.mem_cons, List.mem_nil_iff, or_false] at hu
  rcases hu with rfl | rfl | rfl | rfl | rfl | rfl <;> rfl
theorem adCells_new (W : World) (a : Ad) (T : TypeId) : ∀ (j : Nat) u, (adCells a)[j]? = some u → (W.alloc (.cells (adCells a).toArray T)).cell? ((⟨W.heap.size, 0, none⟩ : Addr).add j) = some u := by
  intro j u hu
  rw [show (⟨W.heap.size, 0, none⟩ : Addr).add j = ⟨W.heap.size, j, none⟩ from by simp [Addr.add]; intro h; exact h.symm, Lib.cell_of_heap (blk_new W _)]
  simpa using hu
theorem AdAt.semi {B : Nat} {a : Ad} {w : World} (h : AdAt B a w) (b : Bool) : AdAt B { a with semi := b } (w.setCell ⟨B, 5, none⟩ (.bool b)) := by
  unfold AdAt at h ⊢
  rw [blk_setCell h 5]
  rfl
theorem AdsV.base {base base' : Nat} {v : Value} {l : List Ad} {w : World} (h : AdsV base v l w) (hb : base' ≤ base) : AdsV base' v l w := by
  obtain ⟨h1, h2⟩ := h
  refine ⟨h1, ?_⟩
  rcases h2 with h2 | ⟨g, cap, cur, hv, hg, r⟩
  · exact .inl h2
  · exact .inr ⟨g, cap, cur, hv, by omega, r⟩
theorem AdsV.nil (base : Nat) (w : World) : AdsV base (.slice none 0 0) [] w := ⟨rfl, .inl ⟨rfl, rfl⟩⟩

theorem infoAddr : (Tryz.prog.info? 58).map (fun i => (i.zero, i.size, i.bytes)) = some (some (.agg #[.int .u8 0, .int .i64 0, .int .u8 0, .string { data := #[] }, .int .i64 0, .bool false]), 6, 56) := by kernel_rfl

def ParsePost (s : ByteArray) (w : World) (e : Ending) (w' : World) : Prop :=
  Below w.heap.size w w' ∧ match rangeL s.data.toList with
  | none => e = .returned (.tuple #[.slice none 0 0, .int .i64 0, .int .u16 141])
  | some (l, r) => ∃ v, e = .returned (.tuple #[v, .int .i64 ((s.size - r.length : Nat)), .int .u16 0]) ∧ AdsV w.heap.size v l w' ∧ ∃ k, k ≤ s.size ∧ r = s.data.toList.drop k

/-- The loop's head. -/
def PRel (s : ByteArray) (w : World) (g : Nat) (v : Value) (wr : World) : Prop :=
  ∃ (j k : Nat) (out : List Ad), j ≤ s.size ∧ s.size < g + j ∧ s.size < k + j ∧ out.length ≤ j ∧ rangeL s.data.toList = adsL k out (s.data.toList.drop j) ∧
    PL w.heap.size s j wr ∧ AdsV (w.heap.size + 1) v out wr ∧ Below w.heap.size w wr

theorem trim_drop (l cs : List UInt8) : Lib.trimLeftS l cs = l.drop (l.length - (Lib.trimLeftS l cs).length) := List.suffix_iff_eq_drop.1 (List.dropWhile_suffix _)
theorem nextB_drop {s : ByteArray} {j : Nat} {x : UInt8} {t : Bs} (h : s.data.toList.drop j = x :: t) : nextB s j = (x.toNat : Int) ∧ j < s.size ∧ t = s.data.toList.drop (j + 1) := by
  have hj : j < s.size := by
    rcases Nat.lt_or_ge j s.size with h' | h'
    · exact h'
    · rw [List.drop_of_length_le (by simp; omega)] at h; cases h
  rw [drop_at s j hj, List.cons.injEq] at h
  unfold nextB
  rw [dif_pos hj, h.1]
  exact ⟨rfl, hj, h.2.symm⟩
theorem nextB_nil {s : ByteArray} {j : Nat} (h : s.data.toList.drop j = []) : nextB s j = 0 := by
  unfold nextB
  rw [dif_neg]
  intro hj
  rw [drop_at s j hj] at h
  cases h
theorem rangeL_pct {s t : Bs} (h : Lib.trimLeftS s [32, 9, 58] = 37 :: t) : rangeL s = some ([⟨1, 1, 0, [], 0, false⟩, ⟨3, 0, 0, [], 0, false⟩], blanks t) := by
  unfold rangeL
  rw [h]
  simp
theorem rangeL_ads {s : Bs} (h : ∀ t, Lib.trimLeftS s [32, 9, 58] ≠ 37 :: t) : rangeL s = adsL ((Lib.trimLeftS s [32, 9, 58]).length + 1) [] (Lib.trimLeftS s [32, 9, 58]) := by
  unfold rangeL
  rcases hT : Lib.trimLeftS s [32, 9, 58] with _ | ⟨x, t⟩
  · rfl
  · simp only
    rw [if_neg]
    · rfl
    · rintro rfl
      exact h t hT
theorem parsePost_none {s : ByteArray} {w w' : World} (h : rangeL s.data.toList = none) (hb : Below w.heap.size w w') : ParsePost s w (.returned (.tuple #[.slice none 0 0, .int .i64 0, .int .u16 141])) w' := by
  unfold ParsePost; rw [h]; exact ⟨hb, rfl⟩
theorem parsePost_some {s : ByteArray} {w w' : World} {l : List Ad} {j : Nat} {r : Bs} {v : Value} {x : Int} (h : rangeL s.data.toList = some (l, r)) (hj : j ≤ s.size) (hr : r = s.data.toList.drop j) (hx : x = (j : Int)) (hv : AdsV w.heap.size v l w') (hb : Below w.heap.size w w') :
    ParsePost s w (.returned (.tuple #[v, .int .i64 x, .int .u16 0])) w' := by
  unfold ParsePost; rw [h]
  refine ⟨hb, v, ?_, hv, j, hj, hr⟩
  rw [hr, hx, List.length_drop, Array.length_toList, ByteArray.size_data, show s.size - (s.size - j) = j by omega]

theorem _root_.Go.RowKit.Below.mk_drewN {B : Nat} {a w : World} (h : Below B a w) (n : Nat) : Below B a (w.drewN n) := ⟨h.os, h.tape, h.output, h.size, h.block⟩

set_option maxRecDepth 100000 in
set_option maxHeartbeats 2000000 in
theorem parse_any (s : ByteArray) (w : World) (hs : s.size ≤ 1000) :
    Calls Tryz.prog 9 #[.string s] w (ParsePost s w) := by
  go_enter Tryz.func9, Tryz.ntmps9
  go_wp2_with fail
  refine (pass_any w.heap.size s ⟨#[32, 9, 58]⟩ 0 _ (blk_new w _) (by omega) (by omega) (by decide) (by decide)).mono ?_
  rintro e w1 ⟨rfl, hpl, hm⟩
  simp only [List.drop_zero] at hpl
  have hle := trimLeft_le s.data.toList [32, 9, 58]
  have hb1 : Below w.heap.size w w1 := ((Below.refl _ w).alloc (Nat.le_refl _) _).trans (hm.below (by simp) (fun k hk c => by omega))
  clear hm
  generalize hT : Lib.trimLeftS s.data.toList [32, 9, 58] = T at *
  have hTd : T = s.data.toList.drop (s.size - T.length) := by rw [← hT]; simpa using trim_drop s.data.toList [32, 9, 58]
  simp only [Array.length_toList, ByteArray.size_data] at hle
  obtain ⟨j, hj, hjT⟩ : ∃ j, j ≤ s.size ∧ s.size - T.length = j := ⟨_, by omega, rfl⟩
  rw [hjT] at hTd hpl
  have c0 := hpl.c0
  have c1 := hpl.c1
  have f1 := hpl.f1
  have hlt := lt_of_blk hpl
  have hnx := fun w' (hw : PL w.heap.size s j w') => next_any w.heap.size s j w' hw hj
  by_cases hp : ∃ t, T = 37 :: t
  · obtain ⟨t, ht⟩ := hp
    rw [ht] at hTd
    obtain ⟨hn, hjs, htd⟩ := nextB_drop hTd.symm
    rw [hn] at hnx
    have hr := rangeL_pct (hT.trans ht)
    have hbt : blanks t = s.data.toList.drop (s.size - (blanks t).length) := by
      have h1 := trim_drop t [32, 9]
      have h2 := trimLeft_le t [32, 9]
      have h3 : t.length = s.size - (j + 1) := by rw [htd]; simp
      conv => lhs; rw [blanks, h1, htd, List.drop_drop]
      congr 1
      unfold blanks
      rw [← htd]
      omega
    have hbl := trimLeft_le t [32, 9]
    have HR := Lib.hid hr
    have HB := Lib.hid hbt
    have HT := Lib.hid htd
    clear hr hbt htd hn ht hTd hT hjT hle
    go_wp2_with (go_at_call 25; refine (hnx _ (by exact hpl)).mono ?_; rintro e w2 ⟨rfl, n1, rfl⟩)
    refine (pass_any w.heap.size s ⟨#[32, 9]⟩ (j + 1) _ (by exact PL.setI (i := j) hpl (by omega)) (by omega) (by omega) (by decide) (by decide)).mono ?_
    rintro e w2 ⟨rfl, hpl2, hm2⟩
    rw [← HT.out] at hpl2
    have hm1 : Below w.heap.size w w2 := hb1.trans (Mod.below (S := (· = w.heap.size)) (Mod.trans (by exact ((Mod.refl _ w1).drewN _).set1 1 _) hm2) (by have := hb1.size; omega) (fun k hk c => by omega))
    clear hm2
    have c1 := hpl2.c1
    have hw2 := lt_of_blk hpl2
    have hne := World.new_ne w2 _ c1
    go_wp2_with fail
    go_region_held3 (fun w' => w'.cell? ⟨w.heap.size, 1, none⟩ = some (.int .i64 ((s.size - (Lib.trimLeftS t [32, 9]).length : Nat) : Int))) (go_keep) (fail)
    all_goals go_wp2_with fail
    all_goals go_ret3
    exact parsePost_some HR.out (by omega) HB.out rfl ⟨rfl, .inr ⟨w2.heap.size, 2, _, rfl, hm1.size, blk_new w2.drew _, Nat.le_refl _, by decide, rfl, rfl⟩⟩ (hm1.drew.alloc hm1.size _)
  · have hr := rangeL_ads (s := s.data.toList) (fun t ht => hp ⟨t, hT.symm.trans ht⟩)
    rw [hT] at hr
    obtain ⟨y, hy, hy1⟩ : ∃ y : Int, nextB s j = y ∧ (y == 37) = false := by
      refine ⟨_, rfl, ?_⟩
      rcases hTT : T with _ | ⟨x, t⟩
      · rw [hTT] at hTd
        rw [nextB_nil hTd.symm]; rfl
      · rw [hTT] at hTd
        rw [(nextB_drop hTd.symm).1, beq_eq_false_iff_ne]
        intro c
        exact hp ⟨t, by rw [hTT]; congr 1; exact UInt8.toNat_inj.1 (by show _ = 37; omega)⟩
    rw [hy] at hnx
    have hTl : T.length = s.size - j := by rw [hTd]; simp
    have HR := Lib.hid (hr.trans (by rw [hTl, hTd] : adsL (T.length + 1) [] T = adsL (s.size - j + 1) [] (s.data.toList.drop j)))
    clear hy hr hT hTd hjT hle hp
    go_wp2_with (go_at_call 25; refine (hnx _ (by exact hpl)).mono ?_; rintro e w2 ⟨rfl, n1, rfl⟩)
    go_loopg [6] (s.size + 1) (fun g v wr => PRel s w g v wr)
    case atStart => exact ⟨j, s.size - j + 1, [], hj, by omega, by omega, by simp, HR.out, hpl, AdsV.nil _ _, hb1.mk_drewN _⟩
    case round =>
      obtain ⟨j, k, out, hj, hg, hk, hol, heq, hpl, hv, hb⟩ := hrel
      obtain ⟨k, rfl⟩ : ∃ m, k = m + 1 := ⟨k - 1, by omega⟩
      have hP := lt_of_blk hpl
      obtain ⟨pv, cv, rfl⟩ := hv.shape
      go_wp2_with fail
      refine (one_any w.heap.size s j _ hpl hj hs).mono ?_
      intro e w3 hq
      unfold OnePost at hq
      rcases hone : oneL (s.data.toList.drop j) with _ | ⟨a, is, r⟩
      · rw [hone] at hq
        obtain ⟨⟨a, is, rfl⟩, hm⟩ := hq
        have HE := Lib.hid (show rangeL s.data.toList = none by rw [heq, adsL, hone])
        have hb3 : Below w.heap.size w w3 := hb.trans (hm.below (by omega) (fun k hk c => by omega))
        clear heq hone hv
        unfold adV adCells
        go_wp2_with fail
        go_ret3
        exact parsePost_none HE.out (hb3.alloc hb3.size _)
      · rw [hone] at hq
        obtain ⟨rfl, hpl3, hm, m, hmj, hr⟩ := hq
        have hrl : r.length = s.size - (j + m) := by rw [hr]; simp
        rw [hrl, show s.size - (s.size - (j + m)) = j + m by omega] at hpl3
        have hb3 : Below w.heap.size w w3 := hb.trans (hm.below (by omega) (fun k hk c => by omega))
        have hv3 := hv.mod hm (fun k hk c => by omega)
        have hP3 := lt_of_blk hpl3
        have hbr := trim_drop r [32, 9]
        have hbl := trimLeft_le r [32, 9]
        obtain ⟨j2, hj2, hjm, hbd⟩ : ∃ j2, s.size - (Lib.trimLeftS r [32, 9]).length = j2 ∧ j + m ≤ j2 ∧ blanks r = s.data.toList.drop j2 := by
          refine ⟨_, rfl, by omega, ?_⟩
          unfold blanks
          conv => lhs; rw [hbr, hr, List.drop_drop, ← hr]
          congr 1
          omega
        have heq2 : rangeL s.data.toList = adsL (k + 1) out (s.data.toList.drop j) := heq
        rw [adsL, hone] at heq2
        simp only at heq2
        clear hv hpl hb hm heq hone
        unfold adV adCells
        go_wp2_with fail
        refine (pass_any w.heap.size s ⟨#[32, 9]⟩ (j + m) _ (by exact blk_alloc hpl3 _) (by omega) (by omega) (by decide) (by decide)).mono ?_
        rintro e w4 ⟨rfl, hpl4, hm4⟩
        rw [← hr, hj2] at hpl4
        have hA4 : AdAt w3.heap.size a w4 := hm4.get (blk_new _ _) (by omega)
        have hb4 : Below w.heap.size w w4 := (hb3.alloc hb3.size _).trans (hm4.below (by have := hb3.size; simp; omega) (fun k hk c => by omega))
        have hv4 : AdsV (w.heap.size + 1) (.slice pv out.length cv) out w4 := hv3.mod (Mod.trans (S := (· = w.heap.size)) (by exact (Mod.refl _ w3).alloc _) hm4) (fun k hk c => by omega)
        have hj2s : j2 ≤ s.size := by omega
        have hnx := fun w' (hw : PL w.heap.size s j2 w') => next_any w.heap.size s j2 w' hw hj2s
        obtain ⟨d0, d1, d2, d3, d4, d5⟩ := six_cells hA4
        obtain ⟨y0, y1, y2, y3, y4, y5⟩ := six_frozen hA4
        have hA4l := lt_of_blk hA4
        have hm34 : Mod (· = w.heap.size) w3 w4 := Mod.trans (by exact (Mod.refl _ w3).alloc _) hm4
        have hv3l := hv3.own_lt
        clear hpl3 hb3 hm4 hv4
        obtain ⟨i0, hi0, hz0, hz1, hz2⟩ := info_parts infoAddr
        by_cases hmore : ∃ x t, blanks r = x :: t ∧ (x = 44 ∨ x = 59)
        · obtain ⟨x, t, hxt, hx⟩ := hmore
          obtain ⟨hn, hjs, htd⟩ := nextB_drop (hbd.symm.trans hxt)
          rw [hn] at hnx
          obtain ⟨j3, hj3, hj23, hb3⟩ : ∃ j3, s.size - (Lib.trimLeftS t [32, 9]).length = j3 ∧ j2 + 1 ≤ j3 ∧ blanks t = s.data.toList.drop j3 := by
            have h1 := trim_drop t [32, 9]
            have h2 := trimLeft_le t [32, 9]
            have h3 : t.length = s.size - (j2 + 1) := by rw [htd]; simp
            refine ⟨_, rfl, by omega, ?_⟩
            unfold blanks
            conv => lhs; rw [h1, htd, List.drop_drop, ← htd]
            congr 1
            omega
          have HT := Lib.hid htd
          clear htd hn hbd hr hrl hbr
          rcases hx with hx | hx
          · have hx : x = 44 := hx
            subst hx
            have HR := Lib.hid (show rangeL s.data.toList = adsL k (out ++ [{ a with semi := false }]) (s.data.toList.drop j3) by rw [heq2, hxt]; show (if _ then _ else _) = _; rw [if_pos (by decide), hb3]; rfl)
            clear heq2 hxt hb3
            cases is with
            | true =>
              go_upto_region 16 with (go_at_call 25; refine (hnx _ (by exact hpl4)).mono ?_; rintro e w5 ⟨rfl, n1, rfl⟩)
              refine name_world (Q := fun W => Code.wp _ _ _ _ W) _ fun W hW => ?_
              have hmW : Mod (· = w.heap.size) w3 W := by rw [hW]; exact (hm34.drewN _).setCell (p := ⟨w3.heap.size, 5, none⟩) (.inr (Nat.le_refl _)) _
              have hplW : PL w.heap.size s j2 W := by rw [hW]; exact blk_setCell_ne (o := .cells #[.string s, .int .i64 (j2 : Nat)] 54 (0, 0)) hpl4 (by omega) 5 _
              have hAW : AdAt w3.heap.size { a with semi := false } W := by rw [hW]; exact AdAt.semi (a := a) (w := w4.drewN _) hA4 _
              have hbW : Below w.heap.size w W := by rw [hW]; exact (hb4.mk_drewN _).setCell (p := ⟨w3.heap.size, 5, none⟩) (by simp only; omega) _
              have hvW : AdsV (w.heap.size + 1) (.slice pv out.length cv) out W := hv3.mod hmW (fun k hk c => by omega)
              have hWsz := hmW.size
              clear hW hm34 hpl4 hA4 hb4 d0 d1 d2 d3 d4 d5 y0 y1 y2 y3 y4 y5
              obtain ⟨d0, d1, d2, d3, d4, d5⟩ := six_cells hAW
              go_wp2_with (at_builtin; refine wpList_append_own _ rfl (.tmp 67) (.tmp 69) 23 rfl (w.heap.size + 1) 58 i0 _ 6 56 Tryz.underlying23 hi0 hz0 hz1 hz2 rfl (by decide) _ _ _ rfl (World.ownsRow.alloc hvW _) ⟨W.heap.size, 0, none⟩ 1 1 (adCells { a with semi := false }) rfl rfl (adCells_new W _ _) (adCells_one _) (by simp only [maxLen]; omega) (by omega) (by simp; omega) ?_)
              intro v' w6 hown' hgrow _
              have hm6 : Mod (fun k => (Value.slice pv out.length cv).ownBlock = some k) W w6 := Mod.trans ((Mod.refl _ W).alloc _) (Mod.of_grown hgrow)
              have hpl6 : PL w.heap.size s j2 w6 := hm6.get hplW (fun c => by have := hv3l _ c; omega)
              have hb6 : Below w.heap.size w w6 := hbW.trans (hm6.below (by omega) (fun k hk c => by have := hv3l _ c; omega))
              have hv6 : AdsV (w.heap.size + 1) v' (out ++ [{ a with semi := false }]) w6 := by
                unfold AdsV
                rw [adsCells_snoc, List.length_append]
                exact hown'
              clear hown' hgrow hm6 hvW hAW hplW hbW d0 d1 d2 d3 d4 d5
              have c1 := hpl6.c1
              have f1 := hpl6.f1
              go_wp2_with fail
              refine (pass_any w.heap.size s ⟨#[32, 9]⟩ (j2 + 1) _ (by exact PL.setI (i := j2) hpl6 (by omega)) (by omega) (by omega) (by decide) (by decide)).mono ?_
              rintro e w7 ⟨rfl, hpl7, hm7⟩
              rw [← HT.out, hj3] at hpl7
              have hm67 : Mod (· = w.heap.size) w6 w7 := Mod.trans (by exact (Mod.refl _ w6).set1 1 _) hm7
              go_wp2_with fail
              go_roundg (gk - 1)
              case measure => omega
              case rel => exact ⟨j3, k, _, by omega, by omega, by omega, by simp; omega, HR.out, hpl7, hv6.mod hm67 (fun k hk c => by omega), hb6.trans (hm67.below (by have := hb6.size; omega) (fun k hk c => by omega))⟩
            | false =>
              go_upto_region 16 with (go_at_call 25; refine (hnx _ (by exact hpl4)).mono ?_; rintro e w5 ⟨rfl, n1, rfl⟩)
              refine name_world (Q := fun W => Code.wp _ _ _ _ W) _ fun W hW => ?_
              have hmW : Mod (· = w.heap.size) w3 W := by rw [hW]; exact (hm34.drewN _).setCell (p := ⟨w3.heap.size, 5, none⟩) (.inr (Nat.le_refl _)) _
              have hplW : PL w.heap.size s j2 W := by rw [hW]; exact blk_setCell_ne (o := .cells #[.string s, .int .i64 (j2 : Nat)] 54 (0, 0)) hpl4 (by omega) 5 _
              have hAW : AdAt w3.heap.size { a with semi := false } W := by rw [hW]; exact AdAt.semi (a := a) (w := w4.drewN _) hA4 _
              have hbW : Below w.heap.size w W := by rw [hW]; exact (hb4.mk_drewN _).setCell (p := ⟨w3.heap.size, 5, none⟩) (by simp only; omega) _
              have hvW : AdsV (w.heap.size + 1) (.slice pv out.length cv) out W := hv3.mod hmW (fun k hk c => by omega)
              have hWsz := hmW.size
              clear hW hm34 hpl4 hA4 hb4 d0 d1 d2 d3 d4 d5 y0 y1 y2 y3 y4 y5
              obtain ⟨d0, d1, d2, d3, d4, d5⟩ := six_cells hAW
              go_wp2_with (at_builtin; refine wpList_append_own _ rfl (.tmp 67) (.tmp 69) 23 rfl (w.heap.size + 1) 58 i0 _ 6 56 Tryz.underlying23 hi0 hz0 hz1 hz2 rfl (by decide) _ _ _ rfl (World.ownsRow.alloc hvW _) ⟨W.heap.size, 0, none⟩ 1 1 (adCells { a with semi := false }) rfl rfl (adCells_new W _ _) (adCells_one _) (by simp only [maxLen]; omega) (by omega) (by simp; omega) ?_)
              intro v' w6 hown' hgrow _
              have hm6 : Mod (fun k => (Value.slice pv out.length cv).ownBlock = some k) W w6 := Mod.trans ((Mod.refl _ W).alloc _) (Mod.of_grown hgrow)
              have hpl6 : PL w.heap.size s j2 w6 := hm6.get hplW (fun c => by have := hv3l _ c; omega)
              have hb6 : Below w.heap.size w w6 := hbW.trans (hm6.below (by omega) (fun k hk c => by have := hv3l _ c; omega))
              have hv6 : AdsV (w.heap.size + 1) v' (out ++ [{ a with semi := false }]) w6 := by
                unfold AdsV
                rw [adsCells_snoc, List.length_append]
                exact hown'
              clear hown' hgrow hm6 hvW hAW hplW hbW d0 d1 d2 d3 d4 d5
              have c1 := hpl6.c1
              have f1 := hpl6.f1
              go_wp2_with fail
              refine (pass_any w.heap.size s ⟨#[32, 9]⟩ (j2 + 1) _ (by exact PL.setI (i := j2) hpl6 (by omega)) (by omega) (by omega) (by decide) (by decide)).mono ?_
              rintro e w7 ⟨rfl, hpl7, hm7⟩
              rw [← HT.out, hj3] at hpl7
              have hm67 : Mod (· = w.heap.size) w6 w7 := Mod.trans (by exact (Mod.refl _ w6).set1 1 _) hm7
              go_wp2_with fail
              go_roundg (gk - 1)
              case measure => omega
              case rel => exact ⟨j3, k, _, by omega, by omega, by omega, by simp; omega, HR.out, hpl7, hv6.mod hm67 (fun k hk c => by omega), hb6.trans (hm67.below (by have := hb6.size; omega) (fun k hk c => by omega))⟩
          · have hx : x = 59 := hx
            subst hx
            have HR := Lib.hid (show rangeL s.data.toList = adsL k (out ++ [{ a with semi := true }]) (s.data.toList.drop j3) by rw [heq2, hxt]; show (if _ then _ else _) = _; rw [if_pos (by decide), hb3]; rfl)
            clear heq2 hxt hb3
            cases is with
            | true =>
              go_upto_region 16 with (go_at_call 25; refine (hnx _ (by exact hpl4)).mono ?_; rintro e w5 ⟨rfl, n1, rfl⟩)
              refine name_world (Q := fun W => Code.wp _ _ _ _ W) _ fun W hW => ?_
              have hmW : Mod (· = w.heap.size) w3 W := by rw [hW]; exact (hm34.drewN _).setCell (p := ⟨w3.heap.size, 5, none⟩) (.inr (Nat.le_refl _)) _
              have hplW : PL w.heap.size s j2 W := by rw [hW]; exact blk_setCell_ne (o := .cells #[.string s, .int .i64 (j2 : Nat)] 54 (0, 0)) hpl4 (by omega) 5 _
              have hAW : AdAt w3.heap.size { a with semi := true } W := by rw [hW]; exact AdAt.semi (a := a) (w := w4.drewN _) hA4 _
              have hbW : Below w.heap.size w W := by rw [hW]; exact (hb4.mk_drewN _).setCell (p := ⟨w3.heap.size, 5, none⟩) (by simp only; omega) _
              have hvW : AdsV (w.heap.size + 1) (.slice pv out.length cv) out W := hv3.mod hmW (fun k hk c => by omega)
              have hWsz := hmW.size
              clear hW hm34 hpl4 hA4 hb4 d0 d1 d2 d3 d4 d5 y0 y1 y2 y3 y4 y5
              obtain ⟨d0, d1, d2, d3, d4, d5⟩ := six_cells hAW
              go_wp2_with (at_builtin; refine wpList_append_own _ rfl (.tmp 67) (.tmp 69) 23 rfl (w.heap.size + 1) 58 i0 _ 6 56 Tryz.underlying23 hi0 hz0 hz1 hz2 rfl (by decide) _ _ _ rfl (World.ownsRow.alloc hvW _) ⟨W.heap.size, 0, none⟩ 1 1 (adCells { a with semi := true }) rfl rfl (adCells_new W _ _) (adCells_one _) (by simp only [maxLen]; omega) (by omega) (by simp; omega) ?_)
              intro v' w6 hown' hgrow _
              have hm6 : Mod (fun k => (Value.slice pv out.length cv).ownBlock = some k) W w6 := Mod.trans ((Mod.refl _ W).alloc _) (Mod.of_grown hgrow)
              have hpl6 : PL w.heap.size s j2 w6 := hm6.get hplW (fun c => by have := hv3l _ c; omega)
              have hb6 : Below w.heap.size w w6 := hbW.trans (hm6.below (by omega) (fun k hk c => by have := hv3l _ c; omega))
              have hv6 : AdsV (w.heap.size + 1) v' (out ++ [{ a with semi := true }]) w6 := by
                unfold AdsV
                rw [adsCells_snoc, List.length_append]
                exact hown'
              clear hown' hgrow hm6 hvW hAW hplW hbW d0 d1 d2 d3 d4 d5
              have c1 := hpl6.c1
              have f1 := hpl6.f1
              go_wp2_with fail
              refine (pass_any w.heap.size s ⟨#[32, 9]⟩ (j2 + 1) _ (by exact PL.setI (i := j2) hpl6 (by omega)) (by omega) (by omega) (by decide) (by decide)).mono ?_
              rintro e w7 ⟨rfl, hpl7, hm7⟩
              rw [← HT.out, hj3] at hpl7
              have hm67 : Mod (· = w.heap.size) w6 w7 := Mod.trans (by exact (Mod.refl _ w6).set1 1 _) hm7
              go_wp2_with fail
              go_roundg (gk - 1)
              case measure => omega
              case rel => exact ⟨j3, k, _, by omega, by omega, by omega, by simp; omega, HR.out, hpl7, hv6.mod hm67 (fun k hk c => by omega), hb6.trans (hm67.below (by have := hb6.size; omega) (fun k hk c => by omega))⟩
            | false =>
              go_upto_region 16 with (go_at_call 25; refine (hnx _ (by exact hpl4)).mono ?_; rintro e w5 ⟨rfl, n1, rfl⟩)
              refine name_world (Q := fun W => Code.wp _ _ _ _ W) _ fun W hW => ?_
              have hmW : Mod (· = w.heap.size) w3 W := by rw [hW]; exact (hm34.drewN _).setCell (p := ⟨w3.heap.size, 5, none⟩) (.inr (Nat.le_refl _)) _
              have hplW : PL w.heap.size s j2 W := by rw [hW]; exact blk_setCell_ne (o := .cells #[.string s, .int .i64 (j2 : Nat)] 54 (0, 0)) hpl4 (by omega) 5 _
              have hAW : AdAt w3.heap.size { a with semi := true } W := by rw [hW]; exact AdAt.semi (a := a) (w := w4.drewN _) hA4 _
              have hbW : Below w.heap.size w W := by rw [hW]; exact (hb4.mk_drewN _).setCell (p := ⟨w3.heap.size, 5, none⟩) (by simp only; omega) _
              have hvW : AdsV (w.heap.size + 1) (.slice pv out.length cv) out W := hv3.mod hmW (fun k hk c => by omega)
              have hWsz := hmW.size
              clear hW hm34 hpl4 hA4 hb4 d0 d1 d2 d3 d4 d5 y0 y1 y2 y3 y4 y5
              obtain ⟨d0, d1, d2, d3, d4, d5⟩ := six_cells hAW
              go_wp2_with (at_builtin; refine wpList_append_own _ rfl (.tmp 67) (.tmp 69) 23 rfl (w.heap.size + 1) 58 i0 _ 6 56 Tryz.underlying23 hi0 hz0 hz1 hz2 rfl (by decide) _ _ _ rfl (World.ownsRow.alloc hvW _) ⟨W.heap.size, 0, none⟩ 1 1 (adCells { a with semi := true }) rfl rfl (adCells_new W _ _) (adCells_one _) (by simp only [maxLen]; omega) (by omega) (by simp; omega) ?_)
              intro v' w6 hown' hgrow _
              have hm6 : Mod (fun k => (Value.slice pv out.length cv).ownBlock = some k) W w6 := Mod.trans ((Mod.refl _ W).alloc _) (Mod.of_grown hgrow)
              have hpl6 : PL w.heap.size s j2 w6 := hm6.get hplW (fun c => by have := hv3l _ c; omega)
              have hb6 : Below w.heap.size w w6 := hbW.trans (hm6.below (by omega) (fun k hk c => by have := hv3l _ c; omega))
              have hv6 : AdsV (w.heap.size + 1) v' (out ++ [{ a with semi := true }]) w6 := by
                unfold AdsV
                rw [adsCells_snoc, List.length_append]
                exact hown'
              clear hown' hgrow hm6 hvW hAW hplW hbW d0 d1 d2 d3 d4 d5
              have c1 := hpl6.c1
              have f1 := hpl6.f1
              go_wp2_with fail
              refine (pass_any w.heap.size s ⟨#[32, 9]⟩ (j2 + 1) _ (by exact PL.setI (i := j2) hpl6 (by omega)) (by omega) (by omega) (by decide) (by decide)).mono ?_
              rintro e w7 ⟨rfl, hpl7, hm7⟩
              rw [← HT.out, hj3] at hpl7
              have hm67 : Mod (· = w.heap.size) w6 w7 := Mod.trans (by exact (Mod.refl _ w6).set1 1 _) hm7
              go_wp2_with fail
              go_roundg (gk - 1)
              case measure => omega
              case rel => exact ⟨j3, k, _, by omega, by omega, by omega, by simp; omega, HR.out, hpl7, hv6.mod hm67 (fun k hk c => by omega), hb6.trans (hm67.below (by have := hb6.size; omega) (fun k hk c => by omega))⟩
        · obtain ⟨y, hy, hy1, hy2⟩ : ∃ y : Int, nextB s j2 = y ∧ (y == 44) = false ∧ (y == 59) = false := by
            refine ⟨_, rfl, ?_⟩
            rcases hbl2 : blanks r with _ | ⟨x, t⟩
            · rw [nextB_nil (hbd.symm.trans hbl2)]; exact ⟨rfl, rfl⟩
            · rw [(nextB_drop (hbd.symm.trans hbl2)).1]
              constructor <;> (rw [beq_eq_false_iff_ne]; intro c; exact hmore ⟨x, t, hbl2, by first | exact .inl (UInt8.toNat_inj.1 (by show _ = 44; omega)) | exact .inr (UInt8.toNat_inj.1 (by show _ = 59; omega))⟩)
          rw [hy] at hnx
          have heq3 : rangeL s.data.toList = some (if is || !out.isEmpty then out ++ [{ a with semi := false }] else out, s.data.toList.drop j2) := by
            rw [heq2]
            rcases hbl2 : blanks r with _ | ⟨x, t⟩
            · rw [← hbd, hbl2]
            · simp only
              rw [if_neg (fun c => hmore ⟨x, t, hbl2, c⟩), ← hbd, hbl2]
          clear heq2 hmore hy hbd hr hrl hbr
          have hE : is = true ∨ (is = false ∧ out = []) ∨ (is = false ∧ out ≠ []) := by
            cases is
            · rcases out with _ | ⟨o, out⟩
              · exact .inr (.inl ⟨rfl, rfl⟩)
              · exact .inr (.inr ⟨rfl, by simp⟩)
            · exact .inl rfl
          rcases hE with rfl | ⟨rfl, rfl⟩ | ⟨rfl, hne⟩
          · have HR := Lib.hid heq3
            clear heq3
            go_upto_region 16 with (go_at_call 25; refine (hnx _ (by exact hpl4)).mono ?_; rintro e w5 ⟨rfl, n1, rfl⟩)
            refine name_world (Q := fun W => Code.wp _ _ _ _ W) _ fun W hW => ?_
            have hmW : Mod (· = w.heap.size) w3 W := by rw [hW]; exact (hm34.drewN _).setCell (p := ⟨w3.heap.size, 5, none⟩) (.inr (Nat.le_refl _)) _
            have hplW : PL w.heap.size s j2 W := by rw [hW]; exact blk_setCell_ne (o := .cells #[.string s, .int .i64 (j2 : Nat)] 54 (0, 0)) hpl4 (by omega) 5 _
            have hAW : AdAt w3.heap.size { a with semi := false } W := by rw [hW]; exact AdAt.semi (a := a) (w := w4.drewN _) hA4 _
            have hbW : Below w.heap.size w W := by rw [hW]; exact (hb4.mk_drewN _).setCell (p := ⟨w3.heap.size, 5, none⟩) (by simp only; omega) _
            have hvW : AdsV (w.heap.size + 1) (.slice pv out.length cv) out W := hv3.mod hmW (fun k hk c => by omega)
            have hWsz := hmW.size
            clear hW hm34 hpl4 hA4 hb4 d0 d1 d2 d3 d4 d5 y0 y1 y2 y3 y4 y5
            obtain ⟨d0, d1, d2, d3, d4, d5⟩ := six_cells hAW
            go_wp2_with (at_builtin; refine wpList_append_own _ rfl (.tmp 67) (.tmp 69) 23 rfl (w.heap.size + 1) 58 i0 _ 6 56 Tryz.underlying23 hi0 hz0 hz1 hz2 rfl (by decide) _ _ _ rfl (World.ownsRow.alloc hvW _) ⟨W.heap.size, 0, none⟩ 1 1 (adCells { a with semi := false }) rfl rfl (adCells_new W _ _) (adCells_one _) (by simp only [maxLen]; omega) (by omega) (by simp; omega) ?_)
            intro v' w6 hown' hgrow _
            have hm6 : Mod (fun k => (Value.slice pv out.length cv).ownBlock = some k) W w6 := Mod.trans ((Mod.refl _ W).alloc _) (Mod.of_grown hgrow)
            have hpl6 : PL w.heap.size s j2 w6 := hm6.get hplW (fun c => by have := hv3l _ c; omega)
            have hb6 : Below w.heap.size w w6 := hbW.trans (hm6.below (by omega) (fun k hk c => by have := hv3l _ c; omega))
            have hv6 : AdsV (w.heap.size + 1) v' (out ++ [{ a with semi := false }]) w6 := by
              unfold AdsV
              rw [adsCells_snoc, List.length_append]
              exact hown'
            clear hown' hgrow hm6 hvW hAW hplW hbW d0 d1 d2 d3 d4 d5
            obtain ⟨pp, cc, rfl⟩ := hv6.shape
            have c1 := hpl6.c1
            go_wp2_with fail
            go_quiet (fail)
            go_wp2_with fail
            go_ret3
            exact parsePost_some HR.out hj2s rfl rfl (hv6.base (by omega)) (hb6.mk_drewN _)
          · have HR := Lib.hid heq3
            clear heq3
            have c1 := hpl4.c1
            have hP4 := lt_of_blk hpl4
            have hn4 := hm34.size
            go_wp2_with (go_at_call 25; refine (hnx _ (by exact hpl4)).mono ?_; rintro e w5 ⟨rfl, n1, rfl⟩)
            refine wp_region_after_all (by kernel_rfl) (by kernel_rfl) ?_
            repeat (go_big_quiet_step ((fail)))
            refine wpQuiet_nil ?_
            intro _ hu
            obtain ⟨u, hu'⟩ := hu
            subst hu'
            go_wp2_with fail
            go_ret3
            have hb5 : Below w.heap.size w ((w4.drewN n1).setCell ⟨w3.heap.size, 5, none⟩ (.bool false)) := (hb4.mk_drewN _).setCell (p := ⟨w3.heap.size, 5, none⟩) (by simp only; omega) _
            have hm5 : Mod (· = w.heap.size) w3 ((w4.drewN n1).setCell ⟨w3.heap.size, 5, none⟩ (.bool false)) := (hm34.drewN _).setCell (p := ⟨w3.heap.size, 5, none⟩) (.inr (Nat.le_refl _)) _
            refine parsePost_some HR.out hj2s rfl rfl ((hv3.mod (hm5.trans u.h.widen) (fun k hk c => by omega)).base (by omega)) (hb5.trans (u.h.below hb5.size (fun _ _ c => c)))
          · have HR := Lib.hid heq3
            have hol0 : 0 < out.length := List.length_pos_iff.2 hne
            rw [show (if (false || !out.isEmpty) = true then out ++ [{ a with semi := false }] else out) = out ++ [{ a with semi := false }] by
              rcases out with _ | ⟨o, out⟩
              · exact absurd rfl hne
              · rfl] at heq3
            replace HR := Lib.hid heq3
            clear heq3 hne
            go_upto_region 16 with (go_at_call 25; refine (hnx _ (by exact hpl4)).mono ?_; rintro e w5 ⟨rfl, n1, rfl⟩)
            refine name_world (Q := fun W => Code.wp _ _ _ _ W) _ fun W hW => ?_
            have hmW : Mod (· = w.heap.size) w3 W := by rw [hW]; exact (hm34.drewN _).setCell (p := ⟨w3.heap.size, 5, none⟩) (.inr (Nat.le_refl _)) _
            have hplW : PL w.heap.size s j2 W := by rw [hW]; exact blk_setCell_ne (o := .cells #[.string s, .int .i64 (j2 : Nat)] 54 (0, 0)) hpl4 (by omega) 5 _
            have hAW : AdAt w3.heap.size { a with semi := false } W := by rw [hW]; exact AdAt.semi (a := a) (w := w4.drewN _) hA4 _
            have hbW : Below w.heap.size w W := by rw [hW]; exact (hb4.mk_drewN _).setCell (p := ⟨w3.heap.size, 5, none⟩) (by simp only; omega) _
            have hvW : AdsV (w.heap.size + 1) (.slice pv out.length cv) out W := hv3.mod hmW (fun k hk c => by omega)
            have hWsz := hmW.size
            clear hW hm34 hpl4 hA4 hb4 d0 d1 d2 d3 d4 d5 y0 y1 y2 y3 y4 y5
            obtain ⟨d0, d1, d2, d3, d4, d5⟩ := six_cells hAW
            go_wp2_with (at_builtin; refine wpList_append_own _ rfl (.tmp 67) (.tmp 69) 23 rfl (w.heap.size + 1) 58 i0 _ 6 56 Tryz.underlying23 hi0 hz0 hz1 hz2 rfl (by decide) _ _ _ rfl (World.ownsRow.alloc hvW _) ⟨W.heap.size, 0, none⟩ 1 1 (adCells { a with semi := false }) rfl rfl (adCells_new W _ _) (adCells_one _) (by simp only [maxLen]; omega) (by omega) (by simp; omega) ?_)
            intro v' w6 hown' hgrow _
            have hm6 : Mod (fun k => (Value.slice pv out.length cv).ownBlock = some k) W w6 := Mod.trans ((Mod.refl _ W).alloc _) (Mod.of_grown hgrow)
            have hpl6 : PL w.heap.size s j2 w6 := hm6.get hplW (fun c => by have := hv3l _ c; omega)
            have hb6 : Below w.heap.size w w6 := hbW.trans (hm6.below (by omega) (fun k hk c => by have := hv3l _ c; omega))
            have hv6 : AdsV (w.heap.size + 1) v' (out ++ [{ a with semi := false }]) w6 := by
              unfold AdsV
              rw [adsCells_snoc, List.length_append]
              exact hown'
            clear hown' hgrow hm6 hvW hAW hplW hbW d0 d1 d2 d3 d4 d5
            obtain ⟨pp, cc, rfl⟩ := hv6.shape
            have c1 := hpl6.c1
            go_wp2_with fail
            go_quiet (fail)
            go_wp2_with fail
            go_ret3
            exact parsePost_some HR.out hj2s rfl rfl (hv6.base (by omega)) (hb6.mk_drewN _)
end Go.Proofs.YthajagmccaaanaaGreatDoor
