/- emendatorref14.Reader.one: an address with its offsets. -/
import Derived.Test.YthajagmccaaanaaGreatDoorRAddr
namespace Go.Proofs.YthajagmccaaanaaGreatDoor
open Go.RowKit

def ROnePost (b : Nat) (s : ByteArray) (i : Nat) (w : World) (e : Ending) (w' : World) : Prop :=
  match oneL (s.data.toList.drop i) with
  | none => (∃ a is, e = .returned (.tuple #[adV a, .bool is, .int .i64 141])) ∧ Mod (· = b) w w'
  | some (a, is, r) => e = .returned (.tuple #[adV a, .bool is, .int .i64 0]) ∧ RP b s (s.size - r.length) w' ∧ Mod (· = b) w w' ∧ ∃ k, k ≤ s.size - i ∧ r = s.data.toList.drop (i + k)
theorem rone_none {b : Nat} {s : ByteArray} {i : Nat} {w w' : World} (a : Ad) (is : Bool) {v : Value} (h : oneL (s.data.toList.drop i) = none) (hv : v = adV a) (hm : Mod (· = b) w w') :
    ROnePost b s i w (.returned (.tuple #[v, .bool is, .int .i64 141])) w' := by
  unfold ROnePost
  rw [h, hv]
  exact ⟨⟨a, is, rfl⟩, hm⟩
theorem rone_some {b : Nat} {s : ByteArray} {i j : Nat} {w w' : World} {a : Ad} {is : Bool} {r : Bs} {v : Value} (h : oneL (s.data.toList.drop i) = some (a, is, r)) (hv : v = adV a) (hij : i ≤ j) (hj : j ≤ s.size) (hr : r = s.data.toList.drop j) (hp : RP b s j w') (hm : Mod (· = b) w w') :
    ROnePost b s i w (.returned (.tuple #[v, .bool is, .int .i64 0])) w' := by
  unfold ROnePost
  rw [h, hv]
  refine ⟨rfl, ?_, hm, j - i, by omega, ?_⟩
  · rw [hr, List.length_drop, Array.length_toList, ByteArray.size_data, show s.size - (s.size - j) = j by omega]
    exact hp
  · rw [hr]
    congr 1
    omega

/-- Behind some offsets. -/
def ROneRun (b : Nat) (s : ByteArray) (i : Nat) (w0 : World) (R B : Nat) (g : Nat) (is : Value) (wr : World) : Prop :=
  ∃ (a : Ad) (j k : Nat) (isb : Bool), is = .bool isb ∧ i ≤ j ∧ j ≤ s.size ∧ s.size < g + j ∧ s.size ≤ k + j ∧ -1000000000 * (j : Int) ≤ a.off ∧ a.off ≤ 1000000000 * (j : Int) ∧
    oneL (s.data.toList.drop i) = fin a (offsL k a.off isb (s.data.toList.drop j)) ∧ RP b s j wr ∧ AdAt B a wr ∧ AdAt R ⟨0, 0, 0, [], 0, false⟩ wr ∧ Mod (· = b) w0 wr

set_option maxRecDepth 100000 in
set_option maxHeartbeats 4000000 in
theorem rone_any (b : Nat) (s : ByteArray) (i : Nat) (w : World) (h : RP b s i w) (hi : i ≤ s.size) (hs : s.size ≤ 1000000) :
    Calls Tryz.prog 44 #[.pointer (some ⟨b, 0, none⟩)] w (ROnePost b s i w) := by
  have hlt := lt_of_blk h
  go_enter Tryz.func44, Tryz.ntmps44
  go_wp2_with fail
  refine (rbase_any b s i _ (blk_alloc h _) hi hs).mono ?_
  intro e w1 hp
  unfold RBasePost at hp
  rcases hbase : baseL (s.data.toList.drop i) with _ | ⟨a, is, r⟩
  · rw [hbase] at hp
    obtain ⟨⟨a, rfl⟩, hm⟩ := hp
    have HO := Lib.hid (oneL_none hbase)
    clear hbase
    have hR : AdAt w.heap.size ⟨0, 0, 0, [], 0, false⟩ w1 := hm.get (blk_new _ _) (by omega)
    have hm0 : Mod (· = b) w w1 := ((Mod.refl _ w).alloc _).trans hm
    have hsz : w.heap.size < w1.heap.size := lt_of_blk hR
    clear hm
    obtain ⟨z0, z1, z2, z3, z4, z5⟩ := six_cells hR
    obtain ⟨g0, g1, g2, g3, g4, g5⟩ := six_frozen hR
    unfold adV adCells
    go_wp2_with fail
    unfold AdAt at hR
    refine bodyPost_ret (results_ad rfl rfl (blk_alloc (blk_set6 hR _ _ _ _ _ _) _)) rfl ?_
    exact rone_none a false HO.out rfl ((hm0.set6 (.inr (Nat.le_refl _)) _ _ _ _ _ _).alloc _)
  rw [hbase] at hp
  obtain ⟨rfl, hpl, hm⟩ := hp
  obtain ⟨ho, k, hk, hr⟩ := baseL_rest hbase
  simp only [List.length_drop, Array.length_toList, ByteArray.size_data] at hk
  have hrl : r.length = s.size - (i + k) := by rw [hr, List.drop_drop]; simp
  rw [hrl, show s.size - (s.size - (i + k)) = i + k by omega] at hpl
  have hone : oneL (s.data.toList.drop i) = fin a (offsL r.length a.off is (s.data.toList.drop (i + k))) := by rw [oneL_fin hbase, ← List.drop_drop, ← hr]
  have hR : AdAt w.heap.size ⟨0, 0, 0, [], 0, false⟩ w1 := hm.get (blk_new _ _) (by omega)
  have hm0 : Mod (· = b) w w1 := ((Mod.refl _ w).alloc _).trans hm
  have hsz : w.heap.size < w1.heap.size := lt_of_blk hR
  have HN := Lib.hid hone
  have HO := Lib.hid ho
  clear hm hbase hr hone ho
  unfold adV adCells
  go_wp2_with fail
  refine name_world (Q := fun W => Code.wp _ _ _ _ W) _ fun W hW => ?_
  have hB : AdAt w1.heap.size a W := by rw [hW]; exact blk_new w1 _
  have hRW : AdAt w.heap.size ⟨0, 0, 0, [], 0, false⟩ W := by rw [hW]; exact blk_alloc hR _
  have hmW : Mod (· = b) w W := by rw [hW]; exact (by repeat' (first | with_reducible exact hm0 | with_reducible refine Mod.set6 ?_ (.inr ?_) _ _ _ _ _ _ | with_reducible refine Mod.drewN ?_ _ | with_reducible refine Mod.drew ?_ | with_reducible refine Mod.set1 ?_ _ _ | with_reducible refine Mod.alloc ?_ _ | omega | with_reducible refine Mod.setCell ?_ (.inr ?_) _ | (dsimp only; omega)))
  have hplW : RP b s (i + k) W := by rw [hW]; exact blk_alloc hpl _
  clear hW
  go_loopg [6] (s.size + 1) (fun g is wr => ROneRun b s i w w.heap.size w1.heap.size g is wr)
  case atStart => exact ⟨a, i + k, r.length, is, rfl, by omega, by omega, by omega, by omega, by rw [HO.out]; omega, by rw [HO.out]; omega, HN.out, hplW, hB, hRW, hmW⟩
  case round =>
    clear hB hRW hmW hplW hpl hR hm0 HN HO hrl hk
    obtain ⟨a', j, k, isb, rfl, hij, hj, hg, hk, ho1, ho2, hone, hpl, hA, hR', hmr⟩ := hrel
    have hAl := lt_of_blk hA
    have hRl := lt_of_blk hR'
    have hltb := lt_of_blk hpl
    have c0 := hpl.c0
    have c1 := hpl.c1
    by_cases hjs : j < s.size
    · have hd := drop_at s j hjs
      by_cases hx1 : s[j] = 43
      · have x43 : ((s[j].toNat : Int) == 43) = true := by rw [hx1]; rfl
        have x45 : ((s[j].toNat : Int) == 45) = false := by rw [hx1]; rfl
        obtain ⟨k, rfl⟩ : ∃ m, k = m + 1 := ⟨k - 1, by omega⟩
        have HD := Lib.hid hd
        have HX := Lib.hid hx1
        have HN := Lib.hid hone
        clear hd hone hx1
        go_wp2_with fail
        refine wp_region_after_all (by kernel_rfl) (by kernel_rfl) ?_
        repeat (go_big_quiet_step ((fail)))
        refine wpQuiet_nil ?_
        intro _ hu
        obtain ⟨u, hu'⟩ := hu
        subst hu'
        have hr2 : RP b s j u.w := u.get hpl
        have hA2 : AdAt w1.heap.size a' u.w := u.get hA
        have hR2 : AdAt w.heap.size ⟨0, 0, 0, [], 0, false⟩ u.w := u.get hR'
        have hm2 : Mod (· = b) w u.w := hmr.trans u.h.widen
        clear hpl hA hR' hmr c0 c1 hltb hAl hRl
        generalize u.w = w2 at *
        have c0 := hr2.c0
        have c1 := hr2.c1
        have hltb := lt_of_blk hr2
        have hAl := lt_of_blk hA2
        have hRl := lt_of_blk hR2
        go_wp2_with fail
        refine wp_region_after_all (by kernel_rfl) (by kernel_rfl) ?_
        repeat (go_big_quiet_step ((fail)))
        refine wpQuiet_nil ?_
        intro _ hu
        obtain ⟨u, hu'⟩ := hu
        subst hu'
        have hr3 : RP b s j u.w := u.get hr2
        have hA3 : AdAt w1.heap.size a' u.w := u.get hA2
        have hR3 : AdAt w.heap.size ⟨0, 0, 0, [], 0, false⟩ u.w := u.get hR2
        have hm3 : Mod (· = b) w u.w := hm2.trans u.h.widen
        clear hr2 hA2 hR2 hm2 c0 c1 hltb hAl hRl
        generalize u.w = w3 at *
        have c0 := hr3.c0
        have c1 := hr3.c1
        have f1 := hr3.f1
        have hltb := lt_of_blk hr3
        have hAl := lt_of_blk hA3
        have hRl := lt_of_blk hR3
        go_wp2_with fail
        refine (r_number b s (j + 1) _ (by exact RP.setI (i := j) hr3 (by omega)) (by omega) hs).mono ?_
        rintro e w4 ⟨v, rfl, hv, hpl4, hm4⟩
        have hA4 : AdAt w1.heap.size a' w4 := hm4.get (blk_setCell_ne (o := .cells (adCells a').toArray 58 (0, 0)) hA3 (by omega) 1 _) (by omega)
        have hR4 : AdAt w.heap.size ⟨0, 0, 0, [], 0, false⟩ w4 := hm4.get (blk_setCell_ne (o := .cells (adCells ⟨0, 0, 0, [], 0, false⟩).toArray 58 (0, 0)) hR3 (by omega) 1 _) (by omega)
        replace hm4 : Mod (· = b) w w4 := Mod.trans (by exact hm3.set1 1 _) hm4
        clear hr3 hA3 hR3 hm3 c0 c1 f1 hltb hAl hRl
        obtain ⟨d0, d1, d2, d3, d4, d5⟩ := six_cells hA4
        obtain ⟨y0, y1, y2, y3, y4, y5⟩ := six_frozen hA4
        obtain ⟨z0, z1, z2, z3, z4, z5⟩ := six_cells hR4
        obtain ⟨g0, g1, g2, g3, g4, g5⟩ := six_frozen hR4
        have hAl := lt_of_blk hA4
        obtain ⟨K, hK⟩ : ∃ K, (digs (s.data.toList.drop (j + 1))).length = K := ⟨_, rfl⟩
        have hKl := digs_le (s.data.toList.drop (j + 1))
        rw [hK] at hv hpl4 hKl ⊢
        simp only [List.length_drop, Array.length_toList, ByteArray.size_data] at hKl
        by_cases h9 : 9 < K
        · have hnum : numL (s.data.toList.drop (j + 1)) = none := by unfold numL; rw [hK, if_pos h9]
          have HO := Lib.hid (show oneL (s.data.toList.drop i) = none by rw [HN.out, HD.out, offsL_none k _ _ _ _ (by simp [HX.out]) hnum]; rfl)
          clear hnum hv hK
          go_wp2_with fail
          unfold AdAt at hR4
          refine bodyPost_ret (results_ad rfl rfl (blk_set6 hR4 _ _ _ _ _ _)) rfl ?_
          exact rone_none a' false HO.out rfl (hm4.set6 (.inr (Nat.le_refl _)) _ _ _ _ _ _)
        have hv := hv (by omega)
        by_cases h0 : 0 < K
        · have hnum : numL (s.data.toList.drop (j + 1)) = some (val (digs (s.data.toList.drop (j + 1))), true, (s.data.toList.drop (j + 1)).drop K) := by unfold numL; rw [hK, if_neg h9, decide_eq_true h0]
          have hn9 := numL_fst hnum
          have ho := offsL_some k a'.off isb s[j] (s.data.toList.drop (j + 1)) (by simp [HX.out]) hnum
          rw [← HD.out, List.drop_drop] at ho
          generalize val (digs (s.data.toList.drop (j + 1))) = nn at *
          subst hv
          have HO := Lib.hid (show oneL (s.data.toList.drop i) = fin { a' with off := a'.off + 1 * (nn : Int) } (offsL k (a'.off + 1 * (nn : Int)) true (s.data.toList.drop (j + 1 + K))) by rw [HN.out, ho, fin_off, HX.out]; rfl)
          clear hnum hK ho
          go_wp2_with fail
          go_roundg (gk - 1)
          case measure => omega
          case rel => exact ⟨{ a' with off := a'.off + 1 * (nn : Int) }, j + 1 + K, k, true, rfl, by omega, by omega, by omega, by omega, by simp only; omega, by simp only; omega, HO.out, blk_setCell_ne hpl4 (by omega) 4 _, hA4.off (by omega), blk_setCell_ne hR4 (by omega) 4 _, hm4.setCell (p := ⟨w1.heap.size, 4, none⟩) (.inr (by simp only; omega)) _⟩
        obtain rfl : K = 0 := by omega
        have hnum : numL (s.data.toList.drop (j + 1)) = some (val (digs (s.data.toList.drop (j + 1))), false, (s.data.toList.drop (j + 1)).drop 0) := by unfold numL; rw [hK, if_neg h9]; rfl
        have ho := offsL_some k a'.off isb s[j] (s.data.toList.drop (j + 1)) (by simp [HX.out]) hnum
        rw [← HD.out, List.drop_drop] at ho
        have HO := Lib.hid (show oneL (s.data.toList.drop i) = fin { a' with off := a'.off + 1 * 1 } (offsL k (a'.off + 1 * 1) true (s.data.toList.drop (j + 1 + 0))) by rw [HN.out, ho, fin_off, HX.out]; rfl)
        clear hnum hK ho hv h9 h0
        go_wp2_with fail
        go_roundg (gk - 1)
        case measure => omega
        case rel => exact ⟨{ a' with off := a'.off + 1 * 1 }, j + 1 + 0, k, true, rfl, by omega, by omega, by omega, by omega, by simp only; omega, by simp only; omega, HO.out, blk_setCell_ne hpl4 (by omega) 4 _, hA4.off (by omega), blk_setCell_ne hR4 (by omega) 4 _, hm4.setCell (p := ⟨w1.heap.size, 4, none⟩) (.inr (by simp only; omega)) _⟩
      have x43 : ((s[j].toNat : Int) == 43) = false := by
        rw [beq_eq_false_iff_ne]
        intro c
        exact hx1 (UInt8.toNat_inj.1 (by show _ = 43; omega))
      by_cases hx2 : s[j] = 45
      · have x45 : ((s[j].toNat : Int) == 45) = true := by rw [hx2]; rfl
        obtain ⟨k, rfl⟩ : ∃ m, k = m + 1 := ⟨k - 1, by omega⟩
        have HD := Lib.hid hd
        have HX := Lib.hid hx2
        have HN := Lib.hid hone
        clear hd hone hx2
        go_wp2_with fail
        refine wp_region_after_all (by kernel_rfl) (by kernel_rfl) ?_
        repeat (go_big_quiet_step ((fail)))
        refine wpQuiet_nil ?_
        intro _ hu
        obtain ⟨u, hu'⟩ := hu
        subst hu'
        have hr2 : RP b s j u.w := u.get hpl
        have hA2 : AdAt w1.heap.size a' u.w := u.get hA
        have hR2 : AdAt w.heap.size ⟨0, 0, 0, [], 0, false⟩ u.w := u.get hR'
        have hm2 : Mod (· = b) w u.w := hmr.trans u.h.widen
        clear hpl hA hR' hmr c0 c1 hltb hAl hRl
        generalize u.w = w2 at *
        have c0 := hr2.c0
        have c1 := hr2.c1
        have hltb := lt_of_blk hr2
        have hAl := lt_of_blk hA2
        have hRl := lt_of_blk hR2
        go_wp2_with fail
        refine wp_region_after_all (by kernel_rfl) (by kernel_rfl) ?_
        repeat (go_big_quiet_step ((fail)))
        refine wpQuiet_nil ?_
        intro _ hu
        obtain ⟨u, hu'⟩ := hu
        subst hu'
        have hr3 : RP b s j u.w := u.get hr2
        have hA3 : AdAt w1.heap.size a' u.w := u.get hA2
        have hR3 : AdAt w.heap.size ⟨0, 0, 0, [], 0, false⟩ u.w := u.get hR2
        have hm3 : Mod (· = b) w u.w := hm2.trans u.h.widen
        clear hr2 hA2 hR2 hm2 c0 c1 hltb hAl hRl
        generalize u.w = w3 at *
        have c0 := hr3.c0
        have c1 := hr3.c1
        have f1 := hr3.f1
        have hltb := lt_of_blk hr3
        have hAl := lt_of_blk hA3
        have hRl := lt_of_blk hR3
        go_wp2_with fail
        refine (r_number b s (j + 1) _ (by exact RP.setI (i := j) hr3 (by omega)) (by omega) hs).mono ?_
        rintro e w4 ⟨v, rfl, hv, hpl4, hm4⟩
        have hA4 : AdAt w1.heap.size a' w4 := hm4.get (blk_setCell_ne (o := .cells (adCells a').toArray 58 (0, 0)) hA3 (by omega) 1 _) (by omega)
        have hR4 : AdAt w.heap.size ⟨0, 0, 0, [], 0, false⟩ w4 := hm4.get (blk_setCell_ne (o := .cells (adCells ⟨0, 0, 0, [], 0, false⟩).toArray 58 (0, 0)) hR3 (by omega) 1 _) (by omega)
        replace hm4 : Mod (· = b) w w4 := Mod.trans (by exact hm3.set1 1 _) hm4
        clear hr3 hA3 hR3 hm3 c0 c1 f1 hltb hAl hRl
        obtain ⟨d0, d1, d2, d3, d4, d5⟩ := six_cells hA4
        obtain ⟨y0, y1, y2, y3, y4, y5⟩ := six_frozen hA4
        obtain ⟨z0, z1, z2, z3, z4, z5⟩ := six_cells hR4
        obtain ⟨g0, g1, g2, g3, g4, g5⟩ := six_frozen hR4
        have hAl := lt_of_blk hA4
        obtain ⟨K, hK⟩ : ∃ K, (digs (s.data.toList.drop (j + 1))).length = K := ⟨_, rfl⟩
        have hKl := digs_le (s.data.toList.drop (j + 1))
        rw [hK] at hv hpl4 hKl ⊢
        simp only [List.length_drop, Array.length_toList, ByteArray.size_data] at hKl
        by_cases h9 : 9 < K
        · have hnum : numL (s.data.toList.drop (j + 1)) = none := by unfold numL; rw [hK, if_pos h9]
          have HO := Lib.hid (show oneL (s.data.toList.drop i) = none by rw [HN.out, HD.out, offsL_none k _ _ _ _ (by simp [HX.out]) hnum]; rfl)
          clear hnum hv hK
          go_wp2_with fail
          unfold AdAt at hR4
          refine bodyPost_ret (results_ad rfl rfl (blk_set6 hR4 _ _ _ _ _ _)) rfl ?_
          exact rone_none a' false HO.out rfl (hm4.set6 (.inr (Nat.le_refl _)) _ _ _ _ _ _)
        have hv := hv (by omega)
        by_cases h0 : 0 < K
        · have hnum : numL (s.data.toList.drop (j + 1)) = some (val (digs (s.data.toList.drop (j + 1))), true, (s.data.toList.drop (j + 1)).drop K) := by unfold numL; rw [hK, if_neg h9, decide_eq_true h0]
          have hn9 := numL_fst hnum
          have ho := offsL_some k a'.off isb s[j] (s.data.toList.drop (j + 1)) (by simp [HX.out]) hnum
          rw [← HD.out, List.drop_drop] at ho
          generalize val (digs (s.data.toList.drop (j + 1))) = nn at *
          subst hv
          have HO := Lib.hid (show oneL (s.data.toList.drop i) = fin { a' with off := a'.off + (-1) * (nn : Int) } (offsL k (a'.off + (-1) * (nn : Int)) true (s.data.toList.drop (j + 1 + K))) by rw [HN.out, ho, fin_off, HX.out]; rfl)
          clear hnum hK ho
          go_wp2_with fail
          go_roundg (gk - 1)
          case measure => omega
          case rel => exact ⟨{ a' with off := a'.off + (-1) * (nn : Int) }, j + 1 + K, k, true, rfl, by omega, by omega, by omega, by omega, by simp only; omega, by simp only; omega, HO.out, blk_setCell_ne hpl4 (by omega) 4 _, hA4.off (by omega), blk_setCell_ne hR4 (by omega) 4 _, hm4.setCell (p := ⟨w1.heap.size, 4, none⟩) (.inr (by simp only; omega)) _⟩
        obtain rfl : K = 0 := by omega
        have hnum : numL (s.data.toList.drop (j + 1)) = some (val (digs (s.data.toList.drop (j + 1))), false, (s.data.toList.drop (j + 1)).drop 0) := by unfold numL; rw [hK, if_neg h9]; rfl
        have ho := offsL_some k a'.off isb s[j] (s.data.toList.drop (j + 1)) (by simp [HX.out]) hnum
        rw [← HD.out, List.drop_drop] at ho
        have HO := Lib.hid (show oneL (s.data.toList.drop i) = fin { a' with off := a'.off + (-1) * 1 } (offsL k (a'.off + (-1) * 1) true (s.data.toList.drop (j + 1 + 0))) by rw [HN.out, ho, fin_off, HX.out]; rfl)
        clear hnum hK ho hv h9 h0
        go_wp2_with fail
        go_roundg (gk - 1)
        case measure => omega
        case rel => exact ⟨{ a' with off := a'.off + (-1) * 1 }, j + 1 + 0, k, true, rfl, by omega, by omega, by omega, by omega, by simp only; omega, by simp only; omega, HO.out, blk_setCell_ne hpl4 (by omega) 4 _, hA4.off (by omega), blk_setCell_ne hR4 (by omega) 4 _, hm4.setCell (p := ⟨w1.heap.size, 4, none⟩) (.inr (by simp only; omega)) _⟩
      have x45 : ((s[j].toNat : Int) == 45) = false := by
        rw [beq_eq_false_iff_ne]
        intro c
        exact hx2 (UInt8.toNat_inj.1 (by show _ = 45; omega))
      have HO := Lib.hid (show oneL (s.data.toList.drop i) = some (a', isb, s.data.toList.drop j) by
        rw [hone, offsL_stop k _ _ _ (fun x t hxt => by
          rw [hd, List.cons.injEq] at hxt
          rw [← hxt.1]
          exact ⟨hx1, hx2⟩)]
        rfl)
      clear hd hx1 hx2 hone
      go_wp2_with fail
      refine wp_region_after_all (by kernel_rfl) (by kernel_rfl) ?_
      repeat (go_big_quiet_step ((fail)))
      refine wpQuiet_nil ?_
      intro _ hu
      obtain ⟨u, hu'⟩ := hu
      subst hu'
      have hr2 : RP b s j u.w := u.get hpl
      have hA2 := u.get hA
      have hR2 := u.get hR'
      have hm2 : Mod (· = b) w u.w := hmr.trans u.h.widen
      obtain ⟨d0, d1, d2, d3, d4, d5⟩ := six_cells hA2
      obtain ⟨z0, z1, z2, z3, z4, z5⟩ := six_cells hR2
      obtain ⟨g0, g1, g2, g3, g4, g5⟩ := six_frozen hR2
      go_wp2_with fail
      refine bodyPost_ret (results_ad rfl rfl (blk_set6 hR2 _ _ _ _ _ _)) rfl ?_
      exact rone_some HO.out rfl hij hj rfl (blk_set6_ne hr2 (by omega) _ _ _ _ _ _) (by repeat' (first | with_reducible exact hm2 | with_reducible refine Mod.set6 ?_ (.inr ?_) _ _ _ _ _ _ | with_reducible refine Mod.drewN ?_ _ | with_reducible refine Mod.drew ?_ | with_reducible refine Mod.set1 ?_ _ _ | with_reducible refine Mod.alloc ?_ _ | omega | with_reducible refine Mod.setCell ?_ (.inr ?_) _ | (dsimp only; omega)))
    · have HO := Lib.hid (show oneL (s.data.toList.drop i) = some (a', isb, s.data.toList.drop j) by
        rw [hone, offsL_stop k _ _ _ (fun x t hxt => by
          rw [List.drop_of_length_le (by simp; omega)] at hxt
          cases hxt)]
        rfl)
      clear hone
      go_wp2_with fail
      refine wp_region_after_all (by kernel_rfl) (by kernel_rfl) ?_
      repeat (go_big_quiet_step ((fail)))
      refine wpQuiet_nil ?_
      intro _ hu
      obtain ⟨u, hu'⟩ := hu
      subst hu'
      have hr2 : RP b s j u.w := u.get hpl
      have hA2 := u.get hA
      have hR2 := u.get hR'
      have hm2 : Mod (· = b) w u.w := hmr.trans u.h.widen
      obtain ⟨d0, d1, d2, d3, d4, d5⟩ := six_cells hA2
      obtain ⟨z0, z1, z2, z3, z4, z5⟩ := six_cells hR2
      obtain ⟨g0, g1, g2, g3, g4, g5⟩ := six_frozen hR2
      go_wp2_with fail
      refine bodyPost_ret (results_ad rfl rfl (blk_set6 hR2 _ _ _ _ _ _)) rfl ?_
      exact rone_some HO.out rfl hij hj rfl (blk_set6_ne hr2 (by omega) _ _ _ _ _ _) (by repeat' (first | with_reducible exact hm2 | with_reducible refine Mod.set6 ?_ (.inr ?_) _ _ _ _ _ _ | with_reducible refine Mod.drewN ?_ _ | with_reducible refine Mod.drew ?_ | with_reducible refine Mod.set1 ?_ _ _ | with_reducible refine Mod.alloc ?_ _ | omega | with_reducible refine Mod.setCell ?_ (.inr ?_) _ | (dsimp only; omega)))
end Go.Proofs.YthajagmccaaanaaGreatDoor
