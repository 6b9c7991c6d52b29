/- emendatorref14.Same, emendatorref15.Same: of equal things, true. -/
import Derived.Test.YthajagmccaaanaaGreatDoorRefuses
namespace Go.Proofs.YthajagmccaaanaaGreatDoor
open Go.RowKit

theorem adsCells_at (l : List Ad) : ∀ k (h : k < l.length) (j : Nat), j < 6 → (adsCells l)[k * 6 + j]? = (adCells l[k])[j]? := by
  induction l with
  | nil => intro k h; simp at h
  | cons a l ih =>
    intro k h j hj
    have e : adsCells (a :: l) = adCells a ++ adsCells l := by simp [adsCells]
    rw [e]
    cases k with
    | zero => rw [List.getElem?_append_left (by rw [adCells_len]; omega)]; simp
    | succ k =>
      rw [List.getElem?_append_right (by rw [adCells_len]; omega), adCells_len, show (k + 1) * 6 + j - 6 = k * 6 + j by omega]
      simpa using ih k (by simpa using h) j hj

/-- What a list's row holds. -/
theorem AdsV.cells {base : Nat} {v : Value} {l : List Ad} {w : World} (h : AdsV base v l w) (hne : l ≠ []) :
    ∃ g c, v = .slice (some ⟨g, 0, none⟩) l.length c ∧ g < w.heap.size ∧ l.length ≤ maxLen ∧ ∀ k (hk : k < l.length), w.cell? ⟨g, k * 6, none⟩ = some (.int .u8 l[k].kind) ∧ w.cell? ⟨g, k * 6 + 1, none⟩ = some (.int .i64 l[k].n) ∧ w.cell? ⟨g, k * 6 + 2, none⟩ = some (.int .u8 l[k].c.toNat) ∧
      w.cell? ⟨g, k * 6 + 3, none⟩ = some (.string ⟨l[k].pat.toArray⟩) ∧ w.cell? ⟨g, k * 6 + 4, none⟩ = some (.int .i64 l[k].off) ∧ w.cell? ⟨g, k * 6 + 5, none⟩ = some (.bool l[k].semi) := by
  obtain ⟨h1, h2⟩ := h
  rcases h2 with ⟨_, h0⟩ | ⟨g, cap, cur, rfl, hg, hh, h3, h4, h5, h6⟩
  · exact absurd (List.length_eq_zero_iff.1 h0) hne
  · refine ⟨g, cap, rfl, lt_of_blk hh, Nat.le_trans h3 h4, fun k hk => ?_⟩
    have hc : ∀ j, j < 6 → w.cell? ⟨g, k * 6 + j, none⟩ = (adCells l[k])[j]? := by
      intro j hj
      rw [Lib.cell_of_heap hh, ← adsCells_at l k hk j hj, ← h6, List.getElem?_take_of_lt (by omega)]
      simp
    exact ⟨hc 0 (by omega), hc 1 (by omega), hc 2 (by omega), hc 3 (by omega), hc 4 (by omega), hc 5 (by omega)⟩

/-- A list that lay keeps lying. -/
theorem AdsV.keep {base : Nat} {v : Value} {l : List Ad} {a b : World} (h : AdsV base v l a) (hb : Below a.heap.size a b) : AdsV base v l b := by
  obtain ⟨h1, h2⟩ := h
  refine ⟨h1, ?_⟩
  rcases h2 with h2 | ⟨g, cap, cur, hv, hg, hh, r⟩
  · exact .inl h2
  · exact .inr ⟨g, cap, cur, hv, hg, (hb.block _ (lt_of_blk hh)).trans hh, r⟩

set_option maxRecDepth 100000 in
set_option maxHeartbeats 4000000 in
theorem same14_eq (base base' : Nat) (v v' : Value) (l : List Ad) (w : World) (h : AdsV base v l w) (h' : AdsV base' v' l w) :
    Calls Tryz.prog 22 #[v, v'] w fun e w' => e = .returned (.bool true) ∧ Below w.heap.size w w' := by
  by_cases hne : l = []
  · obtain ⟨p, c, rfl⟩ := h.shape
    obtain ⟨p', c', rfl⟩ := h'.shape
    subst hne
    simp only [List.length_nil]
    go_enter Tryz.func22, Tryz.ntmps22
    go_wp2_with fail
    refine wp_loop_rounds 1 ?_
    rw [rounds_succ]
    go_wp2_with fail
    go_ret
    exact ⟨rfl, Below.refl _ _⟩
  · obtain ⟨g, c, rfl, hg, hml, H⟩ := h.cells hne
    obtain ⟨g', c', rfl, hg', -, H'⟩ := h'.cells hne
    have hml : l.length ≤ 9223372036854775807 := hml
    go_enter Tryz.func22, Tryz.ntmps22
    go_wp2_with fail
    go_loopg [5] (l.length + 1) (fun gk n wr => ∃ k : Nat, gk + k = l.length + 1 ∧ k ≤ l.length ∧ n = .int .i64 k ∧ Below w.heap.size w wr)
    case atStart => exact ⟨0, rfl, Nat.zero_le _, rfl, Below.refl _ _⟩
    case round =>
      obtain ⟨k, hgk, hk, rfl, hB⟩ := hrel
      by_cases hlt : k < l.length
      · obtain ⟨a0, a1, a2, a3, a4, a5⟩ := H k hlt
        obtain ⟨b0, b1, b2, b3, b4, b5⟩ := H' k hlt
        have a0 := cell_below a0 hB
        have a1 := cell_below a1 hB
        have a2 := cell_below a2 hB
        have a3 := cell_below a3 hB
        have a4 := cell_below a4 hB
        have a5 := cell_below a5 hB
        have b0 := cell_below b0 hB
        have b1 := cell_below b1 hB
        have b2 := cell_below b2 hB
        have b3 := cell_below b3 hB
        have b4 := cell_below b4 hB
        have b5 := cell_below b5 hB
        have hszB := hB.size
        have hgr : g < wr.heap.size := by omega
        have hgr' : g' < wr.heap.size := by omega
        clear H H' h h'
        go_wp2_with fail
        refine wp_region_after_all (by kernel_rfl) (by kernel_rfl) ?_
        repeat (go_big_quiet_step ((fail)))
        refine wpQuiet_nil ?_
        intro _ hu
        obtain ⟨u, hu'⟩ := hu
        subst hu'
        have hB2 : Below w.heap.size w u.w := hB.trans (u.h.below hszB (fun _ _ c => c))
        go_wp2_with fail
        go_roundg (gk - 1)
        case measure => omega
        case rel => exact ⟨k + 1, by omega, by omega, by go_num, hB2⟩
      · go_wp2_with fail
        go_ret
        exact ⟨rfl, hB⟩

set_option maxRecDepth 100000 in
set_option maxHeartbeats 4000000 in
theorem same15_eq (base base' : Nat) (c : Cm) (p q p' q' : Option Addr) (m n m' n' : Nat) (ads dst : List Ad) (w : World)
    (h1 : AdsV base (.slice p ads.length m) ads w) (h2 : AdsV base (.slice q dst.length n) dst w) (h1' : AdsV base' (.slice p' ads.length m') ads w) (h2' : AdsV base' (.slice q' dst.length n') dst w) :
    Calls Tryz.prog 7 #[.agg #[.slice p ads.length m, .string ⟨c.name.toArray⟩, .bool c.bang, .int .u8 c.reg.toNat, .int .i64 c.count, .slice q dst.length n, .string ⟨c.pat.toArray⟩, .string ⟨c.rep.toArray⟩, .string ⟨c.flags.toArray⟩, .string ⟨c.arg.toArray⟩],
      .agg #[.slice p' ads.length m', .string ⟨c.name.toArray⟩, .bool c.bang, .int .u8 c.reg.toNat, .int .i64 c.count, .slice q' dst.length n', .string ⟨c.pat.toArray⟩, .string ⟨c.rep.toArray⟩, .string ⟨c.flags.toArray⟩, .string ⟨c.arg.toArray⟩]] w fun e w' => e = .returned (.bool true) ∧ Below w.heap.size w w' := by
  go_enter Tryz.func7, Tryz.ntmps7
  go_wp2_with fail
  refine name_world (Q := fun W1 => Calls _ _ _ W1 _) _ fun W1 hW1 => ?_
  have hB1 : Below w.heap.size w W1 := by rw [hW1]; exact ((Below.refl _ w).alloc (Nat.le_refl _) _).alloc (by simp) _
  have hz1 : CB w.heap.size { c with rv := .slice p ads.length m, dv := .slice q dst.length n } W1 := by rw [hW1]; exact blk_alloc (blk_new _ _) _
  have hz2 : CB (w.heap.size + 1) { c with rv := .slice p' ads.length m', dv := .slice q' dst.length n' } W1 := by
    rw [hW1]
    have := blk_new (w.alloc (.cells #[.slice p ads.length m, .string ⟨c.name.toArray⟩, .bool c.bang, .int .u8 c.reg.toNat, .int .i64 c.count, .slice q dst.length n, .string ⟨c.pat.toArray⟩, .string ⟨c.rep.toArray⟩, .string ⟨c.flags.toArray⟩, .string ⟨c.arg.toArray⟩] 25 (0, 0))) (.cells #[.slice p' ads.length m', .string ⟨c.name.toArray⟩, .bool c.bang, .int .u8 c.reg.toNat, .int .i64 c.count, .slice q' dst.length n', .string ⟨c.pat.toArray⟩, .string ⟨c.rep.toArray⟩, .string ⟨c.flags.toArray⟩, .string ⟨c.arg.toArray⟩] 25 (0, 0))
    simpa [CB] using this
  clear hW1
  refine (same14_eq base base' _ _ ads W1 (h1.keep hB1) (h1'.keep hB1)).mono ?_
  rintro e w2 ⟨rfl, hb2⟩
  have x5 := cell_below (ten_cells hz1).2.2.2.2.2.1 hb2
  have y5 := cell_below (ten_cells hz2).2.2.2.2.2.1 hb2
  simp only [] at x5 y5
  go_wp2_with fail
  have hB2 : Below w.heap.size w w2 := hB1.trans (hb2.mono hB1.size)
  refine (same14_eq base base' _ _ dst w2 (h2.keep hB2) (h2'.keep hB2)).mono ?_
  rintro e w3 ⟨rfl, hb3⟩
  go_wp2_with fail
  go_ret
  exact ⟨rfl, hB2.trans (hb3.mono hB2.size)⟩
end Go.Proofs.YthajagmccaaanaaGreatDoor
