/- addr.place.base, one; addr.Parse. -/
import Derived.Test.YthajagmccaaanaaGreatDoorNumber
import Derived.Test.YthajagmccaaanaaGreatDoorSplit
namespace Go.Proofs.YthajagmccaaanaaGreatDoor
open Go.RowKit

/-- An address as a value. -/
def adCells (a : Ad) : List Value := [.int .u8 a.kind, .int .i64 a.n, .int .u8 a.c.toNat, .string ⟨a.pat.toArray⟩, .int .i64 a.off, .bool a.semi]
def adV (a : Ad) : Value := .agg (adCells a).toArray

theorem six_cells {w : World} {B : Nat} {a0 a1 a2 a3 a4 a5 : Value} {T : TypeId} (h : w.heap[B]? = some (.cells #[a0, a1, a2, a3, a4, a5] T (0, 0))) :
    w.cell? ⟨B, 0, none⟩ = some a0 ∧ w.cell? ⟨B, 1, none⟩ = some a1 ∧ w.cell? ⟨B, 2, none⟩ = some a2 ∧ w.cell? ⟨B, 3, none⟩ = some a3 ∧ w.cell? ⟨B, 4, none⟩ = some a4 ∧ w.cell? ⟨B, 5, none⟩ = some a5 := by
  refine ⟨?_, ?_, ?_, ?_, ?_, ?_⟩ <;> (rw [Lib.cell_of_heap h]; rfl)
theorem six_frozen {w : World} {B : Nat} {cs : Array Value} {T : TypeId} (h : w.heap[B]? = some (.cells cs T (0, 0))) :
    w.frozen? ⟨B, 0, none⟩ = false ∧ w.frozen? ⟨B, 1, none⟩ = false ∧ w.frozen? ⟨B, 2, none⟩ = false ∧ w.frozen? ⟨B, 3, none⟩ = false ∧ w.frozen? ⟨B, 4, none⟩ = false ∧ w.frozen? ⟨B, 5, none⟩ = false :=
  ⟨Lib.frozen_of_heap h 0, Lib.frozen_of_heap h 1, Lib.frozen_of_heap h 2, Lib.frozen_of_heap h 3, Lib.frozen_of_heap h 4, Lib.frozen_of_heap h 5⟩

/-- Six cells of one block are written. -/
theorem Mod.set6 {S : Nat → Prop} {a w : World} (h : Mod S a w) {B : Nat} (hB : S B ∨ a.heap.size ≤ B) (v0 v1 v2 v3 v4 v5 : Value) :
    Mod S a ((((((w.setCell ⟨B, 0, none⟩ v0).setCell ⟨B, 1, none⟩ v1).setCell ⟨B, 2, none⟩ v2).setCell ⟨B, 3, none⟩ v3).setCell ⟨B, 4, none⟩ v4).setCell ⟨B, 5, none⟩ v5) :=
  (((((h.setCell (p := ⟨B, 0, none⟩) hB v0).setCell (p := ⟨B, 1, none⟩) hB v1).setCell (p := ⟨B, 2, none⟩) hB v2).setCell (p := ⟨B, 3, none⟩) hB v3).setCell (p := ⟨B, 4, none⟩) hB v4).setCell (p := ⟨B, 5, none⟩) hB v5
theorem blk_set6 {w : World} {B : Nat} {a0 a1 a2 a3 a4 a5 : Value} {T : TypeId} (h : w.heap[B]? = some (.cells #[a0, a1, a2, a3, a4, a5] T (0, 0))) (v0 v1 v2 v3 v4 v5 : Value) :
    ((((((w.setCell ⟨B, 0, none⟩ v0).setCell ⟨B, 1, none⟩ v1).setCell ⟨B, 2, none⟩ v2).setCell ⟨B, 3, none⟩ v3).setCell ⟨B, 4, none⟩ v4).setCell ⟨B, 5, none⟩ v5).heap[B]? = some (.cells #[v0, v1, v2, v3, v4, v5] T (0, 0)) := by
  rw [blk_setCell (blk_setCell (blk_setCell (blk_setCell (blk_setCell (blk_setCell h 0 v0) 1 v1) 2 v2) 3 v3) 4 v4) 5 v5]
  rfl
theorem blk_set6_ne {w : World} {B k : Nat} {o : Obj} (h : w.heap[k]? = some o) (hk : k ≠ B) (v0 v1 v2 v3 v4 v5 : Value) :
    ((((((w.setCell ⟨B, 0, none⟩ v0).setCell ⟨B, 1, none⟩ v1).setCell ⟨B, 2, none⟩ v2).setCell ⟨B, 3, none⟩ v3).setCell ⟨B, 4, none⟩ v4).setCell ⟨B, 5, none⟩ v5).heap[k]? = some o :=
  blk_setCell_ne (blk_setCell_ne (blk_setCell_ne (blk_setCell_ne (blk_setCell_ne (blk_setCell_ne h hk 0 v0) hk 1 v1) hk 2 v2) hk 3 v3) hk 4 v4) hk 5 v5

theorem results_ad {fn : Func} {x y : Tmp} (hf : fn.results = #[.cell 2 58, .tmp x, .tmp y]) {tmps : Array Value} {w : World} {B : Nat} {a0 a1 a2 a3 a4 a5 : Value} {T : TypeId} (hp : tmps.getD 2 undef = .pointer (some ⟨B, 0, none⟩))
    (h : w.heap[B]? = some (.cells #[a0, a1, a2, a3, a4, a5] T (0, 0))) :
    (results fn tmps).run Tryz.prog w = .ok (.tuple #[.agg #[a0, a1, a2, a3, a4, a5], tmps.getD x undef, tmps.getD y undef]) w := by
  obtain ⟨d0, d1, d2, d3, d4, d5⟩ := six_cells h
  simp only [Array.getD_eq_getD_getElem?] at hp
  simp [results, hf, go_sem, hp, d0, d1, d2, d3, d4, d5]

theorem numL_rest {l : Bs} {n : Nat} {is : Bool} {r : Bs} (h : numL l = some (n, is, r)) : ∃ k, k ≤ l.length ∧ r = l.drop k ∧ (is = false → k = 0) := by
  unfold numL at h
  split at h
  · cases h
  · simp only [Option.some.injEq, Prod.mk.injEq] at h
    refine ⟨(digs l).length, digs_le l, h.2.2.symm, fun e => ?_⟩
    have := h.2.1
    rw [e] at this
    simp at this
    simp [this]
theorem numL_fst {l : Bs} {n : Nat} {is : Bool} {r : Bs} (h : numL l = some (n, is, r)) : n < 1000000000 := by
  unfold numL at h
  split at h
  · cases h
  · simp only [Option.some.injEq, Prod.mk.injEq] at h
    rename_i h9
    have := val_digs_lt l (digs l).length (Nat.le_refl _) (by omega)
    rw [digs_take] at this
    omega

theorem split_at (s : ByteArray) (i : Nat) (c : UInt8) (v x : Int) (w : World) (hv : v = (i : Int)) (hx : x = (c.toNat : Int)) (hi : i ≤ s.size) (hs : s.size ≤ 140737488351232) :
    Calls Tryz.prog 75 #[.string s, .int .i64 v, .int .u8 x] w fun e w' =>
      e = .returned (.tuple #[.string ⟨(splitL c (s.data.toList.drop i)).1.toArray⟩, .int .i64 ((i + (splitL c (s.data.toList.drop i)).2 : Nat))]) ∧ Below w.heap.size w w' := by
  subst hv; subst hx
  exact split_any s i c w hi hs

def BasePost (b : Nat) (s : ByteArray) (i : Nat) (w : World) (e : Ending) (w' : World) : Prop :=
  match baseL (s.data.toList.drop i) with
  | none => (∃ a, e = .returned (.tuple #[adV a, .bool false, .int .u16 141])) ∧ Mod (· = b) w w'
  | some (a, is, r) => e = .returned (.tuple #[adV a, .bool is, .int .u16 0]) ∧ PL b s (s.size - r.length) w' ∧ Mod (· = b) w w'

theorem basePost_none {b : Nat} {s : ByteArray} {i : Nat} {w w' : World} (a : Ad) {v : Value} (h : baseL (s.data.toList.drop i) = none) (hv : v = adV a) (hm : Mod (· = b) w w') :
    BasePost b s i w (.returned (.tuple #[v, .bool false, .int .u16 141])) w' := by
  unfold BasePost
  rw [h, hv]
  exact ⟨⟨a, rfl⟩, hm⟩
theorem basePost_some {b : Nat} {s : ByteArray} {i j : Nat} {w w' : World} {a : Ad} {is : Bool} {r : Bs} {v : Value} (h : baseL (s.data.toList.drop i) = some (a, is, r)) (hv : v = adV a) (hj : s.size - r.length = j) (hp : PL b s j w') (hm : Mod (· = b) w w') :
    BasePost b s i w (.returned (.tuple #[v, .bool is, .int .u16 0])) w' := by
  unfold BasePost
  rw [h, hv]
  subst hj
  exact ⟨rfl, hp, hm⟩

set_option maxHeartbeats 2000000 in
theorem base_any (b : Nat) (s : ByteArray) (i : Nat) (w : World) (h : PL b s i w) (hi : i ≤ s.size) (hs : s.size ≤ 140737488351232) :
    Calls Tryz.prog 56 #[.pointer (some ⟨b, 0, none⟩)] w (BasePost b s i w) := by
  have hlt := lt_of_blk h
  go_enter Tryz.func56, Tryz.ntmps56
  go_wp2_with fail
  refine (number_any b s i _ (blk_alloc h _) hi hs).mono ?_
  intro e w1 hp
  unfold NumPost at hp
  rcases hnum : numL (s.data.toList.drop i) with _ | ⟨n, is, r⟩
  · have hbn : baseL (s.data.toList.drop i) = none := by unfold baseL; rw [hnum]
    have HB := Lib.hid hbn
    rw [hnum] at hp
    obtain ⟨rfl, ⟨j, hj, hpl⟩, hm⟩ := hp
    have hblk := hm.get (blk_new _ _) (by omega)
    obtain ⟨g0, g1, g2, g3, g4, g5⟩ := six_frozen hblk
    obtain ⟨d0, d1, d2, d3, d4, d5⟩ := six_cells hblk
    have hm0 : Mod (· = b) w w1 := ((Mod.refl _ w).alloc _).trans hm
    clear hm hnum hbn
    go_wp2_with fail
    refine bodyPost_ret (results_ad rfl rfl (blk_set6 hblk _ _ _ _ _ _)) rfl ?_
    exact basePost_none ⟨1, 0, 0, [], 0, false⟩ HB.out rfl (by repeat' (first | with_reducible exact hm0 | with_reducible refine Mod.set6 ?_ (.inr ?_) _ _ _ _ _ _ | with_reducible refine Mod.drewN ?_ _ | with_reducible refine Mod.drew ?_ | with_reducible refine Mod.set1 ?_ _ _ | with_reducible refine Mod.alloc ?_ _ | omega | with_reducible refine Mod.setCell ?_ (.inr ?_) _ | (dsimp only; omega)))
  · rw [hnum] at hp
    obtain ⟨rfl, hpl, hm⟩ := hp
    obtain ⟨k, hk, hr, hk0⟩ := numL_rest hnum
    have hrl : r.length = s.size - i - k := by rw [hr]; simp; omega
    have hblk := hm.get (blk_new _ _) (by omega)
    obtain ⟨g0, g1, g2, g3, g4, g5⟩ := six_frozen hblk
    obtain ⟨d0, d1, d2, d3, d4, d5⟩ := six_cells hblk
    have hm0 : Mod (· = b) w w1 := ((Mod.refl _ w).alloc _).trans hm
    have hne : b ≠ w.heap.size := by omega
    have hsz : w.heap.size < w1.heap.size := lt_of_blk (hm.get (blk_new _ _) (by omega))
    simp only [List.length_drop, Array.length_toList, ByteArray.size_data] at hk
    clear hm
    cases is with
    | true =>
      have hbn : baseL (s.data.toList.drop i) = some (⟨1, n, 0, [], 0, false⟩, true, r) := by unfold baseL; rw [hnum]
      have HB := Lib.hid hbn
      clear hbn hnum hk0 hr hrl
      go_wp2_with fail
      refine bodyPost_ret (results_ad rfl rfl (blk_set6 hblk _ _ _ _ _ _)) rfl ?_
      exact basePost_some HB.out rfl rfl (blk_set6_ne hpl hne _ _ _ _ _ _) (by repeat' (first | with_reducible exact hm0 | with_reducible refine Mod.set6 ?_ (.inr ?_) _ _ _ _ _ _ | with_reducible refine Mod.drewN ?_ _ | with_reducible refine Mod.drew ?_ | with_reducible refine Mod.set1 ?_ _ _ | with_reducible refine Mod.alloc ?_ _ | omega | with_reducible refine Mod.setCell ?_ (.inr ?_) _ | (dsimp only; omega)))
    | false =>
      have h0 := hk0 rfl
      subst h0
      have hpl' : PL b s i w1 := by rw [hrl, Nat.sub_zero, show s.size - (s.size - i) = i by omega] at hpl; exact hpl
      simp only [List.drop_zero] at hr
      clear hpl hrl hk0 hk
      have c0 := hpl'.c0
      have c1 := hpl'.c1
      have f1 := hpl'.f1
      by_cases hlt2 : i < s.size
      · have hd := drop_at s i hlt2
        have hnx := fun w' (hw : PL b s i w') => next_any b s i w' hw hi
        have hn0 : nextB s i = (s[i].toNat : Int) := by unfold nextB; rw [dif_pos hlt2]
        rw [hn0] at hnx
        have e1 : ((i : Int) == (s.size : Int)) = false := by rw [beq_eq_false_iff_ne]; omega
        by_cases hx46 : s[i] = 46
        · have hbn : baseL (s.data.toList.drop i) = some (⟨2, 0, 0, [], 0, false⟩, true, s.data.toList.drop (i + 1)) := by unfold baseL; rw [hnum, hr, hd, hx46]; simp
          have HB := Lib.hid hbn
          have hxn : ((s[i].toNat : Nat) : Int) = 46 := by rw [hx46]; rfl
          rw [hxn] at hnx
          clear hbn hnum hr hd hn0 hxn hx46
          have e2 : ((i : Int) + 1) = ((i + 1 : Nat) : Int) := by omega
          have E2 := Lib.hid e2
          clear e2
          go_wp2_with (go_at_call 25; refine (hnx _ (by exact hpl')).mono ?_; rintro e w2 ⟨rfl, n1, rfl⟩)
          go_quiet (fail)
          go_wp2_with fail
          refine bodyPost_ret (results_ad rfl rfl (blk_set6 (blk_setCell_ne hblk (Ne.symm hne) 1 _) _ _ _ _ _ _)) rfl ?_
          rw [E2.out]
          exact basePost_some HB.out rfl (by simp; omega) (blk_set6_ne (o := .cells #[.string s, .int .i64 (i + 1 : Nat)] 54 (0, 0)) (PL.set (i := i) hpl' (i + 1)) hne _ _ _ _ _ _) (by repeat' (first | with_reducible exact hm0 | with_reducible refine Mod.set6 ?_ (.inr ?_) _ _ _ _ _ _ | with_reducible refine Mod.drewN ?_ _ | with_reducible refine Mod.drew ?_ | with_reducible refine Mod.set1 ?_ _ _ | with_reducible refine Mod.alloc ?_ _ | omega | with_reducible refine Mod.setCell ?_ (.inr ?_) _ | (dsimp only; omega)))
        have x46 : ((s[i].toNat : Int) == 46) = false := by
          rw [beq_eq_false_iff_ne]
          intro c
          exact hx46 (UInt8.toNat_inj.1 (by show _ = 46; omega))
        by_cases hx36 : s[i] = 36
        · have hbn : baseL (s.data.toList.drop i) = some (⟨3, 0, 0, [], 0, false⟩, true, s.data.toList.drop (i + 1)) := by unfold baseL; rw [hnum, hr, hd, hx36]; simp
          have HB := Lib.hid hbn
          have hxn : ((s[i].toNat : Nat) : Int) = 36 := by rw [hx36]; rfl
          rw [hxn] at hnx
          clear hbn hnum hr hd hn0 hxn hx36
          have e2 : ((i : Int) + 1) = ((i + 1 : Nat) : Int) := by omega
          have E2 := Lib.hid e2
          clear e2
          go_wp2_with (go_at_call 25; refine (hnx _ (by exact hpl')).mono ?_; rintro e w2 ⟨rfl, n1, rfl⟩)
          go_quiet (fail)
          go_wp2_with fail
          refine bodyPost_ret (results_ad rfl rfl (blk_set6 (blk_setCell_ne hblk (Ne.symm hne) 1 _) _ _ _ _ _ _)) rfl ?_
          rw [E2.out]
          exact basePost_some HB.out rfl (by simp; omega) (blk_set6_ne (o := .cells #[.string s, .int .i64 (i + 1 : Nat)] 54 (0, 0)) (PL.set (i := i) hpl' (i + 1)) hne _ _ _ _ _ _) (by repeat' (first | with_reducible exact hm0 | with_reducible refine Mod.set6 ?_ (.inr ?_) _ _ _ _ _ _ | with_reducible refine Mod.drewN ?_ _ | with_reducible refine Mod.drew ?_ | with_reducible refine Mod.set1 ?_ _ _ | with_reducible refine Mod.alloc ?_ _ | omega | with_reducible refine Mod.setCell ?_ (.inr ?_) _ | (dsimp only; omega)))
        have x36 : ((s[i].toNat : Int) == 36) = false := by
          rw [beq_eq_false_iff_ne]
          intro c
          exact hx36 (UInt8.toNat_inj.1 (by show _ = 36; omega))
        by_cases hx39 : s[i] = 39
        · have hxn : ((s[i].toNat : Nat) : Int) = 39 := by rw [hx39]; rfl
          rw [hxn] at hnx
          have e2 : ((i : Int) + 2) = ((i + 2 : Nat) : Int) := by omega
          have E2 := Lib.hid e2
          clear e2
          by_cases hlt3 : i + 1 < s.size
          · have hd2 := drop_at s (i + 1) hlt3
            have hbn : baseL (s.data.toList.drop i) = some (⟨4, 0, s[i + 1], [], 0, false⟩, true, s.data.toList.drop (i + 2)) := by unfold baseL; rw [hnum, hr, hd, hx39, hd2]; simp
            have HB := Lib.hid hbn
            clear hbn hnum hr hd hd2 hn0 hxn hx39 x46 x36
            have e3 : ¬ ((s.size : Int) < (i : Int) + 2) := by omega
            go_wp2_with (go_at_call 25; refine (hnx _ (by exact hpl')).mono ?_; rintro e w2 ⟨rfl, n1, rfl⟩)
            go_quiet (fail)
            go_wp2_with fail
            go_quiet (fail)
            go_wp2_with fail
            have hw0 := lt_of_blk hpl'
            have k1 : IntKind.i64.wrap ((i : Int) + 2 - 1) = (i : Int) + 1 := by rw [IntWalk.i64_in _ (by omega)]; omega
            have k2 : (0 : Int) ≤ (i : Int) + 1 := by omega
            have k3 : ((i : Int) + 1).toNat = i + 1 := by omega
            have k4 : (i : Int) + 1 < (s.size : Int) := by omega
            refine wp_region_after [0, 1, 2, 3, 4, 5, 6, 7, 8, 9, 10] [11, 12, 13] (by kernel_rfl) (by kernel_rfl) (by intro c a d v w h; first | exact h | (delta Exit.then at h ⊢; exact h) | (dsimp +zetaDelta only [Exit.then, Exit.inBlock, Exit.noGoto, bodyPost, put_def] at h ⊢; exact h) | (simp +zetaDelta only at h ⊢; exact h) | (simp +zetaDelta only [bodyPost, put_def] at h ⊢; exact h) | (simp +zetaDelta only [Exit.then, Exit.inBlock, Exit.noGoto, bodyPost, put_def] at h ⊢; exact h)) ?_
            simp only [picks_nil, picks_cons, List.getD_cons_zero, List.getD_cons_succ]
            repeat (go_big_quiet_step ((fail)))
            refine wpQuiet_nil ?_
            intro _ hu
            obtain ⟨u, hu'⟩ := hu
            subst hu'
            clear k1
            go_wp2_with fail
            refine bodyPost_ret (results_ad rfl rfl (blk_set6 (u.get (blk_setCell_ne hblk (Ne.symm hne) 1 _)) _ _ _ _ _ _)) rfl ?_
            exact basePost_some HB.out rfl (by simp; omega) (blk_set6_ne (o := .cells #[.string s, .int .i64 (i + 2 : Nat)] 54 (0, 0)) (u.get (PL.setI (i := i) hpl' E2.out)) hne _ _ _ _ _ _) (Mod.set6 (Mod.trans (by repeat' (first | with_reducible exact hm0 | with_reducible refine Mod.set6 ?_ (.inr ?_) _ _ _ _ _ _ | with_reducible refine Mod.drewN ?_ _ | with_reducible refine Mod.drew ?_ | with_reducible refine Mod.set1 ?_ _ _ | with_reducible refine Mod.alloc ?_ _ | omega | with_reducible refine Mod.setCell ?_ (.inr ?_) _ | (dsimp only; omega))) u.h.widen) (.inr (Nat.le_refl _)) _ _ _ _ _ _)
          · have hd2 : s.data.toList.drop (i + 1) = [] := by rw [List.drop_of_length_le (by simp; omega)]
            have hbn : baseL (s.data.toList.drop i) = none := by unfold baseL; rw [hnum, hr, hd, hx39, hd2]; simp
            have HB := Lib.hid hbn
            clear hbn hnum hr hd hd2 hn0 hxn hx39 x46 x36
            have e3 : (s.size : Int) < (i : Int) + 2 := by omega
            go_wp2_with (go_at_call 25; refine (hnx _ (by exact hpl')).mono ?_; rintro e w2 ⟨rfl, n1, rfl⟩)
            go_quiet (fail)
            go_wp2_with fail
            go_quiet (fail)
            go_wp2_with fail
            refine bodyPost_ret (results_ad rfl rfl (blk_set6 (blk_setCell_ne hblk (Ne.symm hne) 1 _) _ _ _ _ _ _)) rfl ?_
            exact basePost_none ⟨0, 0, 0, [], 0, false⟩ HB.out rfl (by repeat' (first | with_reducible exact hm0 | with_reducible refine Mod.set6 ?_ (.inr ?_) _ _ _ _ _ _ | with_reducible refine Mod.drewN ?_ _ | with_reducible refine Mod.drew ?_ | with_reducible refine Mod.set1 ?_ _ _ | with_reducible refine Mod.alloc ?_ _ | omega | with_reducible refine Mod.setCell ?_ (.inr ?_) _ | (dsimp only; omega)))
        have x39 : ((s[i].toNat : Int) == 39) = false := by
          rw [beq_eq_false_iff_ne]
          intro c
          exact hx39 (UInt8.toNat_inj.1 (by show _ = 39; omega))
        by_cases hx47 : s[i] = 47
        · have hbn : baseL (s.data.toList.drop i) = some (⟨5, 0, 0, (splitL 47 (s.data.toList.drop (i + 1))).1, 0, false⟩, true, (s.data.toList.drop (i + 1)).drop (splitL 47 (s.data.toList.drop (i + 1))).2) := by unfold baseL; rw [hnum, hr, hd, hx47]; simp
          have HB := Lib.hid hbn
          have hxn : ((s[i].toNat : Nat) : Int) = 47 := by rw [hx47]; rfl
          rw [hxn] at hnx
          clear hbn hnum hr hd hn0 hxn hx47
          have hw0 := lt_of_blk hpl'
          have fz : ∀ N j, ((w1.drewN N).alloc (.cells #[.int .u8 0, .int .i64 0, .int .u8 0, .string { data := #[] }, .int .i64 0, .bool false] 58)).frozen? ⟨w1.heap.size, j, none⟩ = false := fun N j => World.frozen?_alloc_new (w := w1.drewN N) _ _ _
          have cz : ∀ N j, ((w1.drewN N).alloc (.cells #[.int .u8 0, .int .i64 0, .int .u8 0, .string { data := #[] }, .int .i64 0, .bool false] 58)).cell? ⟨w1.heap.size, j, none⟩ = #[Value.int .u8 0, .int .i64 0, .int .u8 0, .string { data := #[] }, .int .i64 0, .bool false][j]? := fun N j => World.cell?_alloc_new (w := w1.drewN N) _ _ _
          have hsl := splitL_len 47 _ (s.data.toList.drop (i + 1)) (Nat.le_refl _)
          go_wp2_with (go_at_call 25; refine (hnx _ (by exact hpl')).mono ?_; rintro e w2 ⟨rfl, n1, rfl⟩)
          go_quiet (fail)
          go_wp2_with fail
          refine name_world (Q := fun W => Code.wp _ _ _ _ W) _ fun W hW => ?_
          have hplW : PL b s i W := by rw [hW]; exact blk_set6_ne (blk_alloc hpl' _) (by simp; omega) _ _ _ _ _ _
          have hblkW : W.heap[w.heap.size]? = some (.cells #[.int .u8 0, .int .i64 0, .int .u8 0, .string { data := #[] }, .int .i64 0, .bool false] 58) := by rw [hW]; exact blk_set6_ne (blk_alloc hblk _) (by simp; omega) _ _ _ _ _ _
          have h9 : W.heap[w1.heap.size]? = some (.cells #[.int .u8 5, .int .i64 0, .int .u8 0, .string { data := #[] }, .int .i64 0, .bool false] 58) := by rw [hW]; exact blk_set6 (blk_new (w1.drewN _) _) _ _ _ _ _ _
          have hmW : Mod (· = b) w W := by rw [hW]; exact (by repeat' (first | with_reducible exact hm0 | with_reducible refine Mod.set6 ?_ (.inr ?_) _ _ _ _ _ _ | with_reducible refine Mod.drewN ?_ _ | with_reducible refine Mod.drew ?_ | with_reducible refine Mod.set1 ?_ _ _ | with_reducible refine Mod.alloc ?_ _ | omega | with_reducible refine Mod.setCell ?_ (.inr ?_) _ | (dsimp only; omega)))
          clear hW fz cz
          have q0 := lt_of_blk hplW
          have q1 := lt_of_blk hblkW
          have q2 := lt_of_blk h9
          have c0 := hplW.c0
          have c1 := hplW.c1
          have f1 := hplW.f1
          obtain ⟨g0, g1, g2, g3, g4, g5⟩ := six_frozen hblkW
          obtain ⟨d0, d1, d2, d3, d4, d5⟩ := six_cells hblkW
          obtain ⟨y0, y1, y2, y3, y4, y5⟩ := six_frozen h9
          obtain ⟨z0, z1, z2, z3, z4, z5⟩ := six_cells h9
          have k1 : IntKind.i64.wrap ((i : Int) + 1) = (i : Int) + 1 := by rw [IntWalk.i64_in _ (by omega)]
          refine wp_region_after [0, 1, 2, 3, 4, 5, 6, 7, 8, 9, 10, 11, 12, 13, 14, 15] [16, 17, 18, 19] (by kernel_rfl) (by kernel_rfl) (by intro c a d v w h; first | exact h | (delta Exit.then at h ⊢; exact h) | (dsimp +zetaDelta only [Exit.then, Exit.inBlock, Exit.noGoto, bodyPost, put_def] at h ⊢; exact h) | (simp +zetaDelta only at h ⊢; exact h) | (simp +zetaDelta only [bodyPost, put_def] at h ⊢; exact h) | (simp +zetaDelta only [Exit.then, Exit.inBlock, Exit.noGoto, bodyPost, put_def] at h ⊢; exact h)) ?_
          simp only [picks_nil, picks_cons, List.getD_cons_zero, List.getD_cons_succ]
          repeat (go_big_quiet_step ((go_at_call 75; exact After.calls_below (split_at s (i + 1) 47 _ _ _ (by omega) rfl (by omega) hs))))
          refine wpQuiet_nil ?_
          intro _ hu
          obtain ⟨u, hu'⟩ := hu
          subst hu'
          clear k1
          go_wp2_with fail
          refine bodyPost_ret (results_ad rfl rfl (blk_set6 (blk_setCell_ne (blk_setCell_ne (u.get hblkW) (by omega) 3 _) (Ne.symm hne) 1 _) _ _ _ _ _ _)) rfl ?_
          refine basePost_some HB.out rfl ?_ (blk_set6_ne (PL.setI (i := i) (blk_setCell_ne (u.get hplW) (by omega) 3 _) (j := i + 1 + (splitL 47 (s.data.toList.drop (i + 1))).2) (by simp)) hne _ _ _ _ _ _) (Mod.set6 (Mod.set1 (Mod.setCell (p := ⟨w1.heap.size, 3, none⟩) (hmW.trans u.h.widen) (.inr (Nat.le_of_lt hsz)) _) 1 _) (.inr (Nat.le_refl _)) _ _ _ _ _ _)
          simp only [List.length_drop, Array.length_toList, ByteArray.size_data] at hsl ⊢
          omega
        have x47 : ((s[i].toNat : Int) == 47) = false := by
          rw [beq_eq_false_iff_ne]
          intro c
          exact hx47 (UInt8.toNat_inj.1 (by show _ = 47; omega))
        by_cases hx63 : s[i] = 63
        · have hbn : baseL (s.data.toList.drop i) = some (⟨6, 0, 0, (splitL 63 (s.data.toList.drop (i + 1))).1, 0, false⟩, true, (s.data.toList.drop (i + 1)).drop (splitL 63 (s.data.toList.drop (i + 1))).2) := by unfold baseL; rw [hnum, hr, hd, hx63]; simp
          have HB := Lib.hid hbn
          have hxn : ((s[i].toNat : Nat) : Int) = 63 := by rw [hx63]; rfl
          rw [hxn] at hnx
          clear hbn hnum hr hd hn0 hxn hx63
          have hw0 := lt_of_blk hpl'
          have fz : ∀ N j, ((w1.drewN N).alloc (.cells #[.int .u8 0, .int .i64 0, .int .u8 0, .string { data := #[] }, .int .i64 0, .bool false] 58)).frozen? ⟨w1.heap.size, j, none⟩ = false := fun N j => World.frozen?_alloc_new (w := w1.drewN N) _ _ _
          have cz : ∀ N j, ((w1.drewN N).alloc (.cells #[.int .u8 0, .int .i64 0, .int .u8 0, .string { data := #[] }, .int .i64 0, .bool false] 58)).cell? ⟨w1.heap.size, j, none⟩ = #[Value.int .u8 0, .int .i64 0, .int .u8 0, .string { data := #[] }, .int .i64 0, .bool false][j]? := fun N j => World.cell?_alloc_new (w := w1.drewN N) _ _ _
          have hsl := splitL_len 63 _ (s.data.toList.drop (i + 1)) (Nat.le_refl _)
          go_wp2_with (go_at_call 25; refine (hnx _ (by exact hpl')).mono ?_; rintro e w2 ⟨rfl, n1, rfl⟩)
          go_quiet (fail)
          go_wp2_with fail
          refine name_world (Q := fun W => Code.wp _ _ _ _ W) _ fun W hW => ?_
          have hplW : PL b s i W := by rw [hW]; exact blk_setCell_ne (blk_set6_ne (blk_alloc hpl' _) (by simp; omega) _ _ _ _ _ _) (by omega) 0 _
          have hblkW : W.heap[w.heap.size]? = some (.cells #[.int .u8 0, .int .i64 0, .int .u8 0, .string { data := #[] }, .int .i64 0, .bool false] 58) := by rw [hW]; exact blk_setCell_ne (blk_set6_ne (blk_alloc hblk _) (by simp; omega) _ _ _ _ _ _) (by omega) 0 _
          have h9 : W.heap[w1.heap.size]? = some (.cells #[.int .u8 6, .int .i64 0, .int .u8 0, .string { data := #[] }, .int .i64 0, .bool false] 58) := by rw [hW]; exact blk_setCell (blk_set6 (blk_new (w1.drewN _) _) _ _ _ _ _ _) 0 _
          have hmW : Mod (· = b) w W := by rw [hW]; exact (by repeat' (first | with_reducible exact hm0 | with_reducible refine Mod.set6 ?_ (.inr ?_) _ _ _ _ _ _ | with_reducible refine Mod.drewN ?_ _ | with_reducible refine Mod.drew ?_ | with_reducible refine Mod.set1 ?_ _ _ | with_reducible refine Mod.alloc ?_ _ | omega | with_reducible refine Mod.setCell ?_ (.inr ?_) _ | (dsimp only; omega)))
          clear hW fz cz
          have q0 := lt_of_blk hplW
          have q1 := lt_of_blk hblkW
          have q2 := lt_of_blk h9
          have c0 := hplW.c0
          have c1 := hplW.c1
          have f1 := hplW.f1
          obtain ⟨g0, g1, g2, g3, g4, g5⟩ := six_frozen hblkW
          obtain ⟨d0, d1, d2, d3, d4, d5⟩ := six_cells hblkW
          obtain ⟨y0, y1, y2, y3, y4, y5⟩ := six_frozen h9
          obtain ⟨z0, z1, z2, z3, z4, z5⟩ := six_cells h9
          have k1 : IntKind.i64.wrap ((i : Int) + 1) = (i : Int) + 1 := by rw [IntWalk.i64_in _ (by omega)]
          refine wp_region_after [0, 1, 2, 3, 4, 5, 6, 7, 8, 9, 10, 11, 12, 13, 14, 15] [16, 17, 18, 19] (by kernel_rfl) (by kernel_rfl) (by intro c a d v w h; first | exact h | (delta Exit.then at h ⊢; exact h) | (dsimp +zetaDelta only [Exit.then, Exit.inBlock, Exit.noGoto, bodyPost, put_def] at h ⊢; exact h) | (simp +zetaDelta only at h ⊢; exact h) | (simp +zetaDelta only [bodyPost, put_def] at h ⊢; exact h) | (simp +zetaDelta only [Exit.then, Exit.inBlock, Exit.noGoto, bodyPost, put_def] at h ⊢; exact h)) ?_
          simp only [picks_nil, picks_cons, List.getD_cons_zero, List.getD_cons_succ]
          repeat (go_big_quiet_step ((go_at_call 75; exact After.calls_below (split_at s (i + 1) 63 _ _ _ (by omega) rfl (by omega) hs))))
          refine wpQuiet_nil ?_
          intro _ hu
          obtain ⟨u, hu'⟩ := hu
          subst hu'
          clear k1
          go_wp2_with fail
          refine bodyPost_ret (results_ad rfl rfl (blk_set6 (blk_setCell_ne (blk_setCell_ne (u.get hblkW) (by omega) 3 _) (Ne.symm hne) 1 _) _ _ _ _ _ _)) rfl ?_
          refine basePost_some HB.out rfl ?_ (blk_set6_ne (PL.setI (i := i) (blk_setCell_ne (u.get hplW) (by omega) 3 _) (j := i + 1 + (splitL 63 (s.data.toList.drop (i + 1))).2) (by simp)) hne _ _ _ _ _ _) (Mod.set6 (Mod.set1 (Mod.setCell (p := ⟨w1.heap.size, 3, none⟩) (hmW.trans u.h.widen) (.inr (Nat.le_of_lt hsz)) _) 1 _) (.inr (Nat.le_refl _)) _ _ _ _ _ _)
          simp only [List.length_drop, Array.length_toList, ByteArray.size_data] at hsl ⊢
          omega
        have x63 : ((s[i].toNat : Int) == 63) = false := by
          rw [beq_eq_false_iff_ne]
          intro c
          exact hx63 (UInt8.toNat_inj.1 (by show _ = 63; omega))
        have hbn : baseL (s.data.toList.drop i) = some (⟨2, 0, 0, [], 0, false⟩, false, s.data.toList.drop i) := by unfold baseL; rw [hnum, hr, hd]; simp [hx46, hx36, hx39, hx47, hx63]
        have HB := Lib.hid hbn
        obtain ⟨d, hdd⟩ : ∃ d : Int, ((s[i].toNat : Nat) : Int) = d := ⟨_, rfl⟩
        rw [hdd] at hnx x46 x36 x39 x47 x63
        clear hbn hnum hr hd hn0 hdd
        go_wp2_with (go_at_call 25; refine (hnx _ (by exact hpl')).mono ?_; rintro e w2 ⟨rfl, n1, rfl⟩)
        go_quiet (fail)
        go_wp2_with fail
        refine bodyPost_ret (results_ad rfl rfl (blk_set6 hblk _ _ _ _ _ _)) rfl ?_
        exact basePost_some HB.out rfl (by simp; omega) (blk_set6_ne (o := .cells #[.string s, .int .i64 (i : Nat)] 54 (0, 0)) hpl' hne _ _ _ _ _ _) (by repeat' (first | with_reducible exact hm0 | with_reducible refine Mod.set6 ?_ (.inr ?_) _ _ _ _ _ _ | with_reducible refine Mod.drewN ?_ _ | with_reducible refine Mod.drew ?_ | with_reducible refine Mod.set1 ?_ _ _ | with_reducible refine Mod.alloc ?_ _ | omega | with_reducible refine Mod.setCell ?_ (.inr ?_) _ | (dsimp only; omega)))
      · have hd : r = [] := by rw [hr, List.drop_of_length_le (by simp; omega)]
        have hbn : baseL (s.data.toList.drop i) = some (⟨2, 0, 0, [], 0, false⟩, false, []) := by unfold baseL; rw [hnum, hd]
        have HB := Lib.hid hbn
        have hnx := fun w' (hw : PL b s i w') => next_any b s i w' hw hi
        have hn0 : nextB s i = 0 := by unfold nextB; rw [dif_neg hlt2]
        rw [hn0] at hnx
        have e1 : ((i : Int) == (s.size : Int)) = true := by rw [beq_iff_eq]; omega
        clear hbn hnum hr hd hn0
        go_wp2_with (go_at_call 25; refine (hnx _ (by exact hpl')).mono ?_; rintro e w2 ⟨rfl, n1, rfl⟩)
        go_quiet (fail)
        go_wp2_with fail
        refine bodyPost_ret (results_ad rfl rfl (blk_set6 hblk _ _ _ _ _ _)) rfl ?_
        exact basePost_some HB.out rfl (by simp; omega) (blk_set6_ne (o := .cells #[.string s, .int .i64 i] 54 (0, 0)) hpl' hne _ _ _ _ _ _) (by repeat' (first | with_reducible exact hm0 | with_reducible refine Mod.set6 ?_ (.inr ?_) _ _ _ _ _ _ | with_reducible refine Mod.drewN ?_ _ | with_reducible refine Mod.drew ?_ | with_reducible refine Mod.set1 ?_ _ _ | with_reducible refine Mod.alloc ?_ _ | omega | with_reducible refine Mod.setCell ?_ (.inr ?_) _ | (dsimp only; omega)))
end Go.Proofs.YthajagmccaaanaaGreatDoor
