/- emendatorlaw15.CmdRefuses: the walk. -/
import Derived.Test.YthajagmccaaanaaDoorKnown
namespace Go.Proofs.YthajagmccaaanaaDoor
open Go.RowKit

theorem endL_err {ads : List Ad} {m : Except Int (Cm × List Ad × Bs)} {n : Int} (hm : ∀ k, m = .error k → k = 141 ∨ k = 150 ∨ k = 151) (h : endL ads m = .error n) : n = 141 ∨ n = 150 ∨ n = 151 := by
  unfold endL at h
  rcases m with k | ⟨c, d, l⟩
  · cases h; exact hm _ rfl
  · simp only at h
    split at h
    · cases h
    · cases h; exact .inr (.inr rfl)
theorem parseR_err {v : Value} {s : Bs} {n : Int} (h : parseR v s = .error n) : n = 3 ∨ n = 141 ∨ n = 150 ∨ n = 151 := by
  unfold parseR at h
  split at h
  · cases h; exact .inl rfl
  · split at h
    · cases h; exact .inr (.inl rfl)
    · unfold bodyL at h
      split at h
      · cases h; exact .inr (.inr (.inl rfl))
      · exact .inr (endL_err (fun k hk => moreL_err hk) h)
theorem parseR_len {v : Value} {s : Bs} {q : Cm × List Ad × List Ad} (h : parseR v s = .ok q) : s.length ≤ 1000 := by
  unfold parseR at h
  split at h
  · cases h
  · omega

theorem bangC_rv (c : Cm) (l : Bs) : (bangC c l).1.rv = c.rv := by
  unfold bangC
  split <;> rfl
theorem endL_ok {ads a : List Ad} {m : Except Int (Cm × List Ad × Bs)} {c : Cm} {d : List Ad} (h : endL ads m = .ok (c, a, d)) : ∃ l, m = .ok (c, d, l) ∧ a = ads ∧ blanks l = [] := by
  unfold endL at h
  rcases m with k | ⟨c', d', l⟩
  · cases h
  · simp only at h
    split at h
    · rename_i hb
      cases h; exact ⟨_, rfl, rfl, hb⟩
    · cases h
theorem parseR_rv {v : Value} {s : Bs} {c : Cm} {a d : List Ad} (h : parseR v s = .ok (c, a, d)) : c.rv = v := by
  unfold parseR at h
  split at h
  · cases h
  · split at h
    · cases h
    · unfold bodyL at h
      split at h
      · cases h
      · rename_i hn
        obtain ⟨l, hm, -, -⟩ := endL_ok h
        exact (moreL_rv hm).trans ((bangC_rv _ _).trans (nameC_names hn).2.2.1)

set_option maxHeartbeats 4000000 in
theorem same14_nil (w : World) : Calls Tryd.prog 23 #[.slice none 0 0, .slice none 0 0] w fun e w' => e = .returned (.bool true) ∧ Below w.heap.size w w' := by
  go_enter Tryd.func23, Tryd.ntmps23
  go_wp2_with fail
  refine wp_loop_rounds 1 ?_
  rw [rounds_succ]
  go_wp2_with fail
  go_ret
  exact ⟨rfl, Below.refl _ _⟩

set_option maxRecDepth 100000 in
set_option maxHeartbeats 4000000 in
theorem same15_zero (w : World) : Calls Tryd.prog 13 #[.agg #[.slice none 0 0, .string ⟨#[]⟩, .bool false, .int .u8 0, .int .i64 0, .slice none 0 0, .string ⟨#[]⟩, .string ⟨#[]⟩, .string ⟨#[]⟩, .string ⟨#[]⟩], .agg #[.slice none 0 0, .string ⟨#[]⟩, .bool false, .int .u8 0, .int .i64 0, .slice none 0 0, .string ⟨#[]⟩, .string ⟨#[]⟩, .string ⟨#[]⟩, .string ⟨#[]⟩]] w fun e w' => e = .returned (.bool true) ∧ Below w.heap.size w w' := by
  go_enter Tryd.func13, Tryd.ntmps13
  go_wp2_with fail
  refine name_world (Q := fun W1 => Calls _ _ _ W1 _) _ fun W1 hW1 => ?_
  have hB1 : Below w.heap.size w W1 := by rw [hW1]; exact ((Below.refl _ w).alloc (Nat.le_refl _) _).alloc (by simp) _
  have hz1 : CB w.heap.size cmdZ W1 := by rw [hW1]; exact blk_alloc (cb_new w) _
  have hz2 : CB (w.heap.size + 1) cmdZ W1 := by
    rw [hW1]
    have := cb_new (w.alloc (.cells #[.slice none 0 0, .string ⟨#[]⟩, .bool false, .int .u8 0, .int .i64 0, .slice none 0 0, .string ⟨#[]⟩, .string ⟨#[]⟩, .string ⟨#[]⟩, .string ⟨#[]⟩] 27 (0, 0)))
    simpa using this
  clear hW1
  refine (same14_nil W1).mono ?_
  rintro e w2 ⟨rfl, hb2⟩
  have x5 := cell_below (ten_cells hz1).2.2.2.2.2.1 hb2
  have y5 := cell_below (ten_cells hz2).2.2.2.2.2.1 hb2
  simp only [cmdZ] at x5 y5
  go_wp2_with fail
  refine (same14_nil w2).mono ?_
  rintro e w3 ⟨rfl, hb3⟩
  go_wp2_with fail
  go_ret
  have h1 := hB1.size
  have h2 := hb2.size
  exact ⟨rfl, (hB1.trans (hb2.mono h1)).trans (hb3.mono (by omega))⟩

set_option maxRecDepth 100000 in
set_option maxHeartbeats 4000000 in
theorem refuses_any (l : Bs) (w : World) (hk : Kn w) : Calls Tryd.prog 9 #[.string ⟨l.toArray⟩] w fun e w' => e = .returned (.bool true) ∧ Below w.heap.size w w' := by
  by_cases hl : 1100 < l.length
  · go_enter Tryd.func9, Tryd.ntmps9
    go_wp2_with fail
    refine (known_any w hk).mono ?_
    rintro e w1 ⟨rfl, hb⟩
    go_wp2_with fail
    go_ret
    exact ⟨rfl, hb⟩
  · go_enter Tryd.func9, Tryd.ntmps9
    go_wp2_with fail
    refine (known_any w hk).mono ?_
    rintro e w1 ⟨rfl, hb⟩
    have hk1 := hk.below hb
    have hsz := hb.size
    go_wp2_with fail
    obtain ⟨⟨m, hm⟩, _⟩ := hk1
    refine (cmdParse_any l w1 m hm (by omega)).mono ?_
    rintro e w2 ⟨hb2, v, hp⟩
    have hsz2 := hb2.size
    have hB : Below w.heap.size w w2 := hb.trans (hb2.mono hsz)
    cases hr : parseR v l with
    | error n =>
      rw [hr] at hp
      have hp : e = .returned (.tuple #[.agg #[.slice none 0 0, .string ⟨#[]⟩, .bool false, .int .u8 0, .int .i64 0, .slice none 0 0, .string ⟨#[]⟩, .string ⟨#[]⟩, .string ⟨#[]⟩, .string ⟨#[]⟩], .int .u16 n]) := hp
      subst hp
      rcases parseR_err hr with rfl | rfl | rfl | rfl
      all_goals clear hr
      all_goals go_wp2_with fail
      all_goals refine (same15_zero _).mono ?_
      all_goals rintro e w3 ⟨rfl, hb3⟩
      all_goals go_wp2_with fail
      all_goals go_ret
      all_goals exact ⟨rfl, (hB.alloc (by omega) _).trans (hb3.mono (by simp; omega))⟩
    | ok q =>
      obtain ⟨c, ads, dst⟩ := q
      rw [hr] at hp
      obtain ⟨d, rfl, h1, h2⟩ := hp
      obtain ⟨p, n, rfl⟩ := h1.shape
      obtain ⟨p', n', rfl⟩ := h2.shape
      have hlen := parseR_len hr
      have hrv := parseR_rv hr
      clear hr
      unfold cmdV
      simp only [hrv]
      go_wp2_with fail
      go_ret
      exact ⟨bstr (by simp; omega), hB.alloc (by omega) _⟩
end Go.Proofs.YthajagmccaaanaaDoor
