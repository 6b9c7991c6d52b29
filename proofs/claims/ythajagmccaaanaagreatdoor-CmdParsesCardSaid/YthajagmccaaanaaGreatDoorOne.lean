/- addr.place.one: an address with its offsets. -/
import Derived.Test.YthajagmccaaanaaGreatDoorAddr
namespace Go.Proofs.YthajagmccaaanaaGreatDoor
open Go.RowKit

theorem offsL_stop (k : Nat) (o : Int) (is : Bool) (l : Bs) (h : ∀ x t, l = x :: t → x ≠ 43 ∧ x ≠ 45) : offsL k o is l = some (o, is, l) := by
  cases k with
  | zero => rfl
  | succ k =>
    cases l with
    | nil => rfl
    | cons x t =>
      have := h x t rfl
      simp [offsL, this.1, this.2]
theorem offsL_none (k : Nat) (o : Int) (is : Bool) (x : UInt8) (t : Bs) (hx : x = 43 ∨ x = 45) (h : numL t = none) : offsL (k + 1) o is (x :: t) = none := by
  simp [offsL, hx, h]
theorem offsL_some (k : Nat) (o : Int) (is : Bool) (x : UInt8) (t : Bs) (hx : x = 43 ∨ x = 45) {n : Nat} {sm : Bool} {r : Bs} (h : numL t = some (n, sm, r)) :
    offsL (k + 1) o is (x :: t) = offsL k (o + (if x = 43 then 1 else -1) * (if sm then (n : Int) else 1)) true r := by
  simp [offsL, hx, h]

def OnePost (b : Nat) (s : ByteArray) (i : Nat) (w : World) (e : Ending) (w' : World) : Prop :=
  match oneL (s.data.toList.drop i) with
  | none => (∃ a is, e = .returned (.tuple #[adV a, .bool is, .int .u16 141])) ∧ Mod (· = b) w w'
  | some (a, is, r) => e = .returned (.tuple #[adV a, .bool is, .int .u16 0]) ∧ PL b s (s.size - r.length) w' ∧ Mod (· = b) w w' ∧ ∃ k, k ≤ s.size - i ∧ r = s.data.toList.drop (i + k)
theorem onePost_none {b : Nat} {s : ByteArray} {i : Nat} {w w' : World} (a : Ad) (is : Bool) {v : Value} (h : oneL (s.data.toList.drop i) = none) (hv : v = adV a) (hm : Mod (· = b) w w') :
    OnePost b s i w (.returned (.tuple #[v, .bool is, .int .u16 141])) w' := by
  unfold OnePost
  rw [h, hv]
  exact ⟨⟨a, is, rfl⟩, hm⟩
theorem onePost_some {b : Nat} {s : ByteArray} {i j : Nat} {w w' : World} {a : Ad} {is : Bool} {r : Bs} {v : Value} (h : oneL (s.data.toList.drop i) = some (a, is, r)) (hv : v = adV a) (hij : i ≤ j) (hj : j ≤ s.size) (hr : r = s.data.toList.drop j) (hp : PL b s j w') (hm : Mod (· = b) w w') :
    OnePost b s i w (.returned (.tuple #[v, .bool is, .int .u16 0])) w' := by
  unfold OnePost
  rw [h, hv]
  refine ⟨rfl, ?_, hm, j - i, by omega, ?_⟩
  · rw [hr, List.length_drop, Array.length_toList, ByteArray.size_data, show s.size - (s.size - j) = j by omega]
    exact hp
  · rw [hr]
    congr 1
    omega

/-- An address lies in block B. -/
def AdAt (B : Nat) (a : Ad) (w : World) : Prop := w.heap[B]? = some (.cells (adCells a).toArray 58)

theorem baseL_rest {l : Bs} {a : Ad} {is : Bool} {r : Bs} (h : baseL l = some (a, is, r)) : a.off = 0 ∧ ∃ k, k ≤ l.length ∧ r = l.drop k := by
  unfold baseL at h
  rcases hn : numL l with _ | ⟨n, x, t⟩
  · rw [hn] at h; cases h
  · obtain ⟨k, hk, ht, _⟩ := numL_rest hn
    rw [hn] at h
    have key : ∀ m, r = t.drop m → ∃ k, k ≤ l.length ∧ r = l.drop k := by
      intro m hm
      by_cases hb : k + m ≤ l.length
      · exact ⟨k + m, hb, by rw [hm, ht, List.drop_drop]⟩
      · refine ⟨l.length, Nat.le_refl _, ?_⟩
        rw [hm, ht, List.drop_drop, List.drop_of_length_le (by omega), List.drop_of_length_le (Nat.le_refl _)]
    cases x with
    | true =>
      simp only [Option.some.injEq, Prod.mk.injEq] at h
      obtain ⟨rfl, _, rfl⟩ := h
      exact ⟨rfl, key 0 (by simp)⟩
    | false =>
      cases t with
      | nil =>
        simp only [Option.some.injEq, Prod.mk.injEq] at h
        obtain ⟨rfl, _, rfl⟩ := h
        exact ⟨rfl, key 0 (by simp)⟩
      | cons x t =>
        simp only at h
        split at h
        · simp only [Option.some.injEq, Prod.mk.injEq] at h
          obtain ⟨rfl, _, rfl⟩ := h
          exact ⟨rfl, key 1 rfl⟩
        split at h
        · simp only [Option.some.injEq, Prod.mk.injEq] at h
          obtain ⟨rfl, _, rfl⟩ := h
          exact ⟨rfl, key 1 rfl⟩
        split at h
        · cases t with
          | nil => cases h
          | cons m t' =>
            simp only [Option.some.injEq, Prod.mk.injEq] at h
            obtain ⟨rfl, _, rfl⟩ := h
            exact ⟨rfl, key 2 rfl⟩
        split at h
        · simp only [Option.some.injEq, Prod.mk.injEq] at h
          obtain ⟨rfl, _, rfl⟩ := h
          exact ⟨rfl, key (1 + (splitL x t).2) (by rw [← List.drop_drop]; rfl)⟩
        split at h
        · simp only [Option.some.injEq, Prod.mk.injEq] at h
          obtain ⟨rfl, _, rfl⟩ := h
          exact ⟨rfl, key (1 + (splitL x t).2) (by rw [← List.drop_drop]; rfl)⟩
        · simp only [Option.some.injEq, Prod.mk.injEq] at h
          obtain ⟨rfl, _, rfl⟩ := h
          exact ⟨rfl, key 0 rfl⟩

def fin (a : Ad) (x : Option (Int × Bool × Bs)) : Option (Ad × Bool × Bs) := x.map fun y => ({ a with off := y.1 }, y.2.1, y.2.2)
theorem oneL_none {l : Bs} (h : baseL l = none) : oneL l = none := by unfold oneL; rw [h]
theorem oneL_fin {l : Bs} {a : Ad} {is : Bool} {r : Bs} (h : baseL l = some (a, is, r)) : oneL l = fin a (offsL r.length a.off is r) := by
  unfold oneL fin
  rw [h]
  simp only
  rcases offsL r.length a.off is r with _ | ⟨o, x, y⟩ <;> rfl

theorem AdAt.off {B : Nat} {a : Ad} {w : World} (h : AdAt B a w) {v o : Int} (hv : v = o) : AdAt B { a with off := o } (w.setCell ⟨B, 4, none⟩ (.int .i64 v)) := by
  subst hv
  unfold AdAt at h ⊢
  rw [blk_setCell h 4]
  rfl
theorem fin_off (a : Ad) (o : Int) (x : Option (Int × Bool × Bs)) : fin { a with off := o } x = fin a x := rfl

/-- Behind some offsets, no error yet. -/
def OneRun (b : Nat) (s : ByteArray) (i : Nat) (w0 : World) (R B : Nat) (g : Nat) (is e : Value) (wr : World) : Prop :=
  ∃ (a : Ad) (j k : Nat) (isb : Bool), e = .int .u16 0 ∧ is = .bool isb ∧ i ≤ j ∧ j ≤ s.size ∧ s.size < g + j ∧ s.size ≤ k + j ∧ -1000000000 * (j : Int) ≤ a.off ∧ a.off ≤ 1000000000 * (j : Int) ∧
    oneL (s.data.toList.drop i) = fin a (offsL k a.off isb (s.data.toList.drop j)) ∧ PL b s j wr ∧ AdAt B a wr ∧ AdAt R ⟨0, 0, 0, [], 0, false⟩ wr ∧ Mod (· = b) w0 wr
/-- An error. -/
def OneErr (b : Nat) (s : ByteArray) (i : Nat) (w0 : World) (R B : Nat) (is e : Value) (wr : World) : Prop :=
  ∃ (a : Ad) (isb : Bool), e = .int .u16 141 ∧ is = .bool isb ∧ oneL (s.data.toList.drop i) = none ∧ AdAt B a wr ∧ AdAt R ⟨0, 0, 0, [], 0, false⟩ wr ∧ Mod (· = b) w0 wr

set_option maxHeartbeats 2000000 in
theorem one_any (b : Nat) (s : ByteArray) (i : Nat) (w : World) (h : PL b s i w) (hi : i ≤ s.size) (hs : s.size ≤ 1000) :
    Calls Tryz.prog 26 #[.pointer (some ⟨b, 0, none⟩)] w (OnePost b s i w) := by
  have hlt := lt_of_blk h
  go_enter Tryz.func26, Tryz.ntmps26
  go_wp2_with fail
  refine (base_any b s i _ (blk_alloc h _) hi (by omega)).mono ?_
  intro e w1 hp
  have hpost : ∃ (a : Ad) (is : Bool) (c : Nat), e = .returned (.tuple #[adV a, .bool is, .int .u16 c]) ∧ AdAt w.heap.size ⟨0, 0, 0, [], 0, false⟩ w1 ∧ Mod (· = b) w w1 ∧
      ((c = 141 ∧ oneL (s.data.toList.drop i) = none) ∨ (c = 0 ∧ ∃ j k, i ≤ j ∧ j ≤ s.size ∧ s.size ≤ k + j ∧ a.off = 0 ∧ oneL (s.data.toList.drop i) = fin a (offsL k a.off is (s.data.toList.drop j)) ∧ PL b s j w1)) := by
    unfold BasePost at hp
    rcases hbase : baseL (s.data.toList.drop i) with _ | ⟨a, is, r⟩
    · rw [hbase] at hp
      obtain ⟨⟨a, rfl⟩, hm⟩ := hp
      exact ⟨a, false, 141, rfl, hm.get (blk_new _ _) (by omega), ((Mod.refl _ w).alloc _).trans hm, .inl ⟨rfl, oneL_none hbase⟩⟩
    · rw [hbase] at hp
      obtain ⟨rfl, hpl, hm⟩ := hp
      obtain ⟨ho, k, hk, hr⟩ := baseL_rest hbase
      simp only [List.length_drop, Array.length_toList, ByteArray.size_data] at hk
      have hrl : r.length = s.size - (i + k) := by rw [hr, List.drop_drop]; simp
      rw [hrl, show s.size - (s.size - (i + k)) = i + k by omega] at hpl
      refine ⟨a, is, 0, rfl, hm.get (blk_new _ _) (by omega), ((Mod.refl _ w).alloc _).trans hm, .inr ⟨rfl, i + k, r.length, by omega, by omega, by omega, ho, ?_, hpl⟩⟩
      rw [oneL_fin hbase, ← List.drop_drop, ← hr]
  clear hp
  obtain ⟨a, is, c, rfl, hR, hm, hst⟩ := hpost
  have hsz : w.heap.size < w1.heap.size := lt_of_blk hR
  unfold adV adCells
  go_wp2_with fail
  refine name_world (Q := fun W => Code.wp _ _ _ _ W) _ fun W hW => ?_
  have hB : AdAt w1.heap.size a W := by rw [hW]; exact blk_new w1 _
  have hRW : AdAt w.heap.size ⟨0, 0, 0, [], 0, false⟩ W := by rw [hW]; exact blk_alloc hR _
  have hmW : Mod (· = b) w W := by rw [hW]; exact (by repeat' (first | with_reducible exact hm | with_reducible refine Mod.set6 ?_ (.inr ?_) _ _ _ _ _ _ | with_reducible refine Mod.drewN ?_ _ | with_reducible refine Mod.drew ?_ | with_reducible refine Mod.set1 ?_ _ _ | with_reducible refine Mod.alloc ?_ _ | omega | with_reducible refine Mod.setCell ?_ (.inr ?_) _ | (dsimp only; omega)))
  have hstW : ∀ j, PL b s j w1 → PL b s j W := fun j hj => by
    rw [hW]; exact blk_alloc hj _
  clear hW
  go_loopg [6, 7] (s.size + 1) (fun g is e wr => OneRun b s i w w.heap.size w1.heap.size g is e wr ∨ OneErr b s i w w.heap.size w1.heap.size is e wr)
  case atStart =>
    rcases hst with ⟨rfl, hn⟩ | ⟨rfl, j, k, hij, hj, hk, ho, hone, hpl⟩
    · exact .inr ⟨a, is, rfl, rfl, hn, hB, hRW, hmW⟩
    · exact .inl ⟨a, j, k, is, rfl, rfl, hij, hj, by omega, hk, by omega, by omega, hone, hstW j hpl, hB, hRW, hmW⟩
  case round =>
    clear hst hstW hB hRW hmW
    rcases hrel with ⟨a', j, k, isb, rfl, rfl, hij, hj, hg, hk, ho1, ho2, hone, hpl, hA, hR', hmr⟩ | ⟨a', isb, rfl, rfl, hone, hA, hR', hmr⟩
    · have hAl := lt_of_blk hA
      have hRl := lt_of_blk hR'
      have c0 := hpl.c0
      have c1 := hpl.c1
      have f1 := hpl.f1
      by_cases hsg : ∃ h : j < s.size, s[j] = 43 ∨ s[j] = 45
      · obtain ⟨hjs, hx⟩ := hsg
        have hd := drop_at s j hjs
        obtain ⟨k, rfl⟩ : ∃ m, k = m + 1 := ⟨k - 1, by omega⟩
        rcases hx with hx | hx
        · have hnx := fun w' (hw : PL b s j w') => next_any b s j w' hw hj
          have hn0 : nextB s j = 43 := by unfold nextB; rw [dif_pos hjs, hx]; rfl
          rw [hn0] at hnx
          clear hn0
          go_wp2_with (go_at_call 25; refine (hnx _ (by exact hpl)).mono ?_; rintro e w2 ⟨rfl, n1, rfl⟩)
          refine (number_any b s (j + 1) _ (by exact PL.setI (i := j) hpl (by omega)) (by omega) (by omega)).mono ?_
          intro e w2 hp
          unfold NumPost at hp
          rcases hnum : numL (s.data.toList.drop (j + 1)) with _ | ⟨n, sm, t⟩
          · have HO := Lib.hid (show oneL (s.data.toList.drop i) = none by rw [hone, hd, offsL_none k _ _ _ _ (by simp [hx]) hnum]; rfl)
            rw [hnum] at hp
            obtain ⟨rfl, _, hm2⟩ := hp
            have hA2 : AdAt w1.heap.size a' w2 := hm2.get (blk_setCell_ne (o := .cells (adCells a').toArray 58 (0, 0)) hA (by omega) 1 _) (by omega)
            have hR2 : AdAt w.heap.size ⟨0, 0, 0, [], 0, false⟩ w2 := hm2.get (blk_setCell_ne (o := .cells (adCells ⟨0, 0, 0, [], 0, false⟩).toArray 58 (0, 0)) hR' (by omega) 1 _) (by omega)
            replace hm2 : Mod (· = b) w w2 := Mod.trans (by exact (hmr.drewN _).set1 1 _) hm2
            clear hone hnum hd hx hA hR' hmr hpl hnx
            obtain ⟨d0, d1, d2, d3, d4, d5⟩ := six_cells hA2
            obtain ⟨y0, y1, y2, y3, y4, y5⟩ := six_frozen hA2
            go_wp2_with fail
            go_roundg (gk - 1)
            case measure => omega
            case rel => exact .inr ⟨_, true, rfl, rfl, HO.out, hA2.off rfl, blk_setCell_ne hR2 (by omega) 4 _, hm2.setCell (p := ⟨w1.heap.size, 4, none⟩) (.inr (by simp only; omega)) _⟩
          · rw [hnum] at hp
            obtain ⟨rfl, hpl2, hm2⟩ := hp
            obtain ⟨m, hm, ht, _⟩ := numL_rest hnum
            have hn9 := numL_fst hnum
            simp only [List.length_drop, Array.length_toList, ByteArray.size_data] at hm
            have htl : t.length = s.size - (j + 1 + m) := by rw [ht, List.drop_drop]; simp
            rw [htl, show s.size - (s.size - (j + 1 + m)) = j + 1 + m by omega] at hpl2
            have hA2 : AdAt w1.heap.size a' w2 := hm2.get (blk_setCell_ne (o := .cells (adCells a').toArray 58 (0, 0)) hA (by omega) 1 _) (by omega)
            have hR2 : AdAt w.heap.size ⟨0, 0, 0, [], 0, false⟩ w2 := hm2.get (blk_setCell_ne (o := .cells (adCells ⟨0, 0, 0, [], 0, false⟩).toArray 58 (0, 0)) hR' (by omega) 1 _) (by omega)
            replace hm2 : Mod (· = b) w w2 := Mod.trans (by exact (hmr.drewN _).set1 1 _) hm2
            obtain ⟨d0, d1, d2, d3, d4, d5⟩ := six_cells hA2
            obtain ⟨y0, y1, y2, y3, y4, y5⟩ := six_frozen hA2
            have ho := offsL_some k a'.off isb s[j] (s.data.toList.drop (j + 1)) (by simp [hx]) hnum
            rw [← hd] at ho
            rw [ht, List.drop_drop] at ho
            cases sm with
            | true =>
              have HO := Lib.hid (show oneL (s.data.toList.drop i) = fin { a' with off := a'.off + 1 * (n : Int) } (offsL k (a'.off + 1 * (n : Int)) true (s.data.toList.drop (j + 1 + m))) by rw [hone, ho, fin_off, hx]; rfl)
              clear hone hnum hd hx hA hR' hmr hpl hnx ho ht htl
              go_wp2_with fail
              go_roundg (gk - 1)
              case measure => omega
              case rel => exact .inl ⟨{ a' with off := a'.off + 1 * (n : Int) }, j + 1 + m, k, true, rfl, rfl, by omega, by omega, by omega, by omega, by simp only; omega, by simp only; omega, HO.out, blk_setCell_ne hpl2 (by omega) 4 _, hA2.off (by omega), blk_setCell_ne hR2 (by omega) 4 _, hm2.setCell (p := ⟨w1.heap.size, 4, none⟩) (.inr (by simp only; omega)) _⟩
            | false =>
              have HO := Lib.hid (show oneL (s.data.toList.drop i) = fin { a' with off := a'.off + 1 * 1 } (offsL k (a'.off + 1 * 1) true (s.data.toList.drop (j + 1 + m))) by rw [hone, ho, fin_off, hx]; rfl)
              clear hone hnum hd hx hA hR' hmr hpl hnx ho ht htl
              go_wp2_with fail
              go_roundg (gk - 1)
              case measure => omega
              case rel => exact .inl ⟨{ a' with off := a'.off + 1 * 1 }, j + 1 + m, k, true, rfl, rfl, by omega, by omega, by omega, by omega, by simp only; omega, by simp only; omega, HO.out, blk_setCell_ne hpl2 (by omega) 4 _, hA2.off (by omega), blk_setCell_ne hR2 (by omega) 4 _, hm2.setCell (p := ⟨w1.heap.size, 4, none⟩) (.inr (by simp only; omega)) _⟩
        · have hnx := fun w' (hw : PL b s j w') => next_any b s j w' hw hj
          have hn0 : nextB s j = 45 := by unfold nextB; rw [dif_pos hjs, hx]; rfl
          rw [hn0] at hnx
          clear hn0
          go_wp2_with (go_at_call 25; refine (hnx _ (by exact hpl)).mono ?_; rintro e w2 ⟨rfl, n1, rfl⟩)
          refine (number_any b s (j + 1) _ (by exact PL.setI (i := j) hpl (by omega)) (by omega) (by omega)).mono ?_
          intro e w2 hp
          unfold NumPost at hp
          rcases hnum : numL (s.data.toList.drop (j + 1)) with _ | ⟨n, sm, t⟩
          · have HO := Lib.hid (show oneL (s.data.toList.drop i) = none by rw [hone, hd, offsL_none k _ _ _ _ (by simp [hx]) hnum]; rfl)
            rw [hnum] at hp
            obtain ⟨rfl, _, hm2⟩ := hp
            have hA2 : AdAt w1.heap.size a' w2 := hm2.get (blk_setCell_ne (o := .cells (adCells a').toArray 58 (0, 0)) hA (by omega) 1 _) (by omega)
            have hR2 : AdAt w.heap.size ⟨0, 0, 0, [], 0, false⟩ w2 := hm2.get (blk_setCell_ne (o := .cells (adCells ⟨0, 0, 0, [], 0, false⟩).toArray 58 (0, 0)) hR' (by omega) 1 _) (by omega)
            replace hm2 : Mod (· = b) w w2 := Mod.trans (by exact (hmr.drewN _).set1 1 _) hm2
            clear hone hnum hd hx hA hR' hmr hpl hnx
            obtain ⟨d0, d1, d2, d3, d4, d5⟩ := six_cells hA2
            obtain ⟨y0, y1, y2, y3, y4, y5⟩ := six_frozen hA2
            go_wp2_with fail
            go_roundg (gk - 1)
            case measure => omega
            case rel => exact .inr ⟨_, true, rfl, rfl, HO.out, hA2.off rfl, blk_setCell_ne hR2 (by omega) 4 _, hm2.setCell (p := ⟨w1.heap.size, 4, none⟩) (.inr (by simp only; omega)) _⟩
          · rw [hnum] at hp
            obtain ⟨rfl, hpl2, hm2⟩ := hp
            obtain ⟨m, hm, ht, _⟩ := numL_rest hnum
            have hn9 := numL_fst hnum
            simp only [List.length_drop, Array.length_toList, ByteArray.size_data] at hm
            have htl : t.length = s.size - (j + 1 + m) := by rw [ht, List.drop_drop]; simp
            rw [htl, show s.size - (s.size - (j + 1 + m)) = j + 1 + m by omega] at hpl2
            have hA2 : AdAt w1.heap.size a' w2 := hm2.get (blk_setCell_ne (o := .cells (adCells a').toArray 58 (0, 0)) hA (by omega) 1 _) (by omega)
            have hR2 : AdAt w.heap.size ⟨0, 0, 0, [], 0, false⟩ w2 := hm2.get (blk_setCell_ne (o := .cells (adCells ⟨0, 0, 0, [], 0, false⟩).toArray 58 (0, 0)) hR' (by omega) 1 _) (by omega)
            replace hm2 : Mod (· = b) w w2 := Mod.trans (by exact (hmr.drewN _).set1 1 _) hm2
            obtain ⟨d0, d1, d2, d3, d4, d5⟩ := six_cells hA2
            obtain ⟨y0, y1, y2, y3, y4, y5⟩ := six_frozen hA2
            have ho := offsL_some k a'.off isb s[j] (s.data.toList.drop (j + 1)) (by simp [hx]) hnum
            rw [← hd] at ho
            rw [ht, List.drop_drop] at ho
            cases sm with
            | true =>
              have HO := Lib.hid (show oneL (s.data.toList.drop i) = fin { a' with off := a'.off + (-1) * (n : Int) } (offsL k (a'.off + (-1) * (n : Int)) true (s.data.toList.drop (j + 1 + m))) by rw [hone, ho, fin_off, hx]; rfl)
              clear hone hnum hd hx hA hR' hmr hpl hnx ho ht htl
              go_wp2_with fail
              go_roundg (gk - 1)
              case measure => omega
              case rel => exact .inl ⟨{ a' with off := a'.off + (-1) * (n : Int) }, j + 1 + m, k, true, rfl, rfl, by omega, by omega, by omega, by omega, by simp only; omega, by simp only; omega, HO.out, blk_setCell_ne hpl2 (by omega) 4 _, hA2.off (by omega), blk_setCell_ne hR2 (by omega) 4 _, hm2.setCell (p := ⟨w1.heap.size, 4, none⟩) (.inr (by simp only; omega)) _⟩
            | false =>
              have HO := Lib.hid (show oneL (s.data.toList.drop i) = fin { a' with off := a'.off + (-1) * 1 } (offsL k (a'.off + (-1) * 1) true (s.data.toList.drop (j + 1 + m))) by rw [hone, ho, fin_off, hx]; rfl)
              clear hone hnum hd hx hA hR' hmr hpl hnx ho ht htl
              go_wp2_with fail
              go_roundg (gk - 1)
              case measure => omega
              case rel => exact .inl ⟨{ a' with off := a'.off + (-1) * 1 }, j + 1 + m, k, true, rfl, rfl, by omega, by omega, by omega, by omega, by simp only; omega, by simp only; omega, HO.out, blk_setCell_ne hpl2 (by omega) 4 _, hA2.off (by omega), blk_setCell_ne hR2 (by omega) 4 _, hm2.setCell (p := ⟨w1.heap.size, 4, none⟩) (.inr (by simp only; omega)) _⟩
      · obtain ⟨y, hy, hy1, hy2⟩ : ∃ y : Int, nextB s j = y ∧ (y == 43) = false ∧ (y == 45) = false := by
          refine ⟨_, rfl, ?_⟩
          unfold nextB
          by_cases hjs : j < s.size
          · rw [dif_pos hjs]
            constructor <;> (rw [beq_eq_false_iff_ne]; intro c; exact hsg ⟨hjs, by first | exact .inl (UInt8.toNat_inj.1 (by show _ = 43; omega)) | exact .inr (UInt8.toNat_inj.1 (by show _ = 45; omega))⟩)
          · rw [dif_neg hjs]; exact ⟨rfl, rfl⟩
        have hnx := fun w' (hw : PL b s j w') => next_any b s j w' hw hj
        rw [hy] at hnx
        have HO := Lib.hid (show oneL (s.data.toList.drop i) = some (a', isb, s.data.toList.drop j) by
          rw [hone, offsL_stop k _ _ _ (fun x t hxt => by
            have hjs : j < s.size := by
              rcases Nat.lt_or_ge j s.size with h | h
              · exact h
              · rw [List.drop_of_length_le (by simp; omega)] at hxt; cases hxt
            rw [drop_at s j hjs, List.cons.injEq] at hxt
            rw [← hxt.1]
            exact ⟨fun c => hsg ⟨hjs, .inl c⟩, fun c => hsg ⟨hjs, .inr c⟩⟩)]
          rfl)
        clear hy hsg hone
        obtain ⟨d0, d1, d2, d3, d4, d5⟩ := six_cells hA
        obtain ⟨z0, z1, z2, z3, z4, z5⟩ := six_cells hR'
        obtain ⟨g0, g1, g2, g3, g4, g5⟩ := six_frozen hR'
        go_wp2_with (go_at_call 25; refine (hnx _ (by exact hpl)).mono ?_; rintro e w2 ⟨rfl, n1, rfl⟩)
        unfold AdAt at hR'
        refine bodyPost_ret (results_ad rfl rfl (blk_set6 hR' _ _ _ _ _ _)) rfl ?_
        exact onePost_some HO.out rfl hij hj rfl (blk_set6_ne (o := .cells #[.string s, .int .i64 (j : Nat)] 54 (0, 0)) hpl (by omega) _ _ _ _ _ _) (by repeat' (first | with_reducible exact hmr | with_reducible refine Mod.set6 ?_ (.inr ?_) _ _ _ _ _ _ | with_reducible refine Mod.drewN ?_ _ | with_reducible refine Mod.drew ?_ | with_reducible refine Mod.set1 ?_ _ _ | with_reducible refine Mod.alloc ?_ _ | omega | with_reducible refine Mod.setCell ?_ (.inr ?_) _ | (dsimp only; omega)))
    · have HB := Lib.hid hone
      obtain ⟨d0, d1, d2, d3, d4, d5⟩ := six_cells hA
      obtain ⟨z0, z1, z2, z3, z4, z5⟩ := six_cells hR'
      obtain ⟨g0, g1, g2, g3, g4, g5⟩ := six_frozen hR'
      clear hone
      go_wp2_with fail
      unfold AdAt at hR'
      refine bodyPost_ret (results_ad rfl rfl (blk_set6 hR' _ _ _ _ _ _)) rfl ?_
      exact onePost_none a' isb HB.out rfl (by repeat' (first | with_reducible exact hmr | with_reducible refine Mod.set6 ?_ (.inr ?_) _ _ _ _ _ _ | with_reducible refine Mod.drewN ?_ _ | with_reducible refine Mod.drew ?_ | with_reducible refine Mod.set1 ?_ _ _ | with_reducible refine Mod.alloc ?_ _ | omega | with_reducible refine Mod.setCell ?_ (.inr ?_) _ | (dsimp only; omega)))
end Go.Proofs.YthajagmccaaanaaGreatDoor
