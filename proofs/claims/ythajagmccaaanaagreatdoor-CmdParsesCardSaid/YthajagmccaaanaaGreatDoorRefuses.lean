/- Errors of parseR; Same of two zero commands. -/
import Derived.Test.YthajagmccaaanaaGreatDoorKnown
namespace Go.Proofs.YthajagmccaaanaaGreatDoor
open Go.RowKit

theorem endL_err {ads : List Ad} {m : Except Int (Cm × List Ad × Bs)} {n : Int} (hm : ∀ k, m = .error k → k = 141 ∨ k = 150 ∨ k = 151) (h : endL ads m = .error n) : n = 141 ∨ n = 150 ∨ n = 151 := by
  unfold endL at h
  rcases m with k | ⟨c, d, l⟩
  · cases h; exact hm _ rfl
  · simp only at h
    split at h
    · cases h
    · cases h; exact .inr (.inr rfl)
theorem parseR_err {v : Value} {s : Bs} {n : Int} (h : parseR v s = .error n) : n = 3 ∨ n = 141 ∨ n = 150 ∨ n = 151 := by
  unfold parseR at h
  split at h
  · cases h; exact .inl rfl
  · split at h
    · cases h; exact .inr (.inl rfl)
    · unfold bodyL at h
      split at h
      · cases h; exact .inr (.inr (.inl rfl))
      · exact .inr (endL_err (fun k hk => moreL_err hk) h)
theorem parseR_len {v : Value} {s : Bs} {q : Cm × List Ad × List Ad} (h : parseR v s = .ok q) : s.length ≤ 1000 := by
  unfold parseR at h
  split at h
  · cases h
  · omega

theorem bangC_rv (c : Cm) (l : Bs) : (bangC c l).1.rv = c.rv := by
  unfold bangC
  split <;> rfl
theorem endL_ok {ads a : List Ad} {m : Except Int (Cm × List Ad × Bs)} {c : Cm} {d : List Ad} (h : endL ads m = .ok (c, a, d)) : ∃ l, m = .ok (c, d, l) ∧ a = ads ∧ blanks l = [] := by
  unfold endL at h
  rcases m with k | ⟨c', d', l⟩
  · cases h
  · simp only at h
    split at h
    · rename_i hb
      cases h; exact ⟨_, rfl, rfl, hb⟩
    · cases h
theorem parseR_rv {v : Value} {s : Bs} {c : Cm} {a d : List Ad} (h : parseR v s = .ok (c, a, d)) : c.rv = v := by
  unfold parseR at h
  split at h
  · cases h
  · split at h
    · cases h
    · unfold bodyL at h
      split at h
      · cases h
      · rename_i hn
        obtain ⟨l, hm, -, -⟩ := endL_ok h
        exact (moreL_rv hm).trans ((bangC_rv _ _).trans (nameC_names hn).2.2.1)

set_option maxHeartbeats 4000000 in
theorem same14_nil (w : World) : Calls Tryz.prog 22 #[.slice none 0 0, .slice none 0 0] w fun e w' => e = .returned (.bool true) ∧ Below w.heap.size w w' := by
  go_enter Tryz.func22, Tryz.ntmps22
  go_wp2_with fail
  refine wp_loop_rounds 1 ?_
  rw [rounds_succ]
  go_wp2_with fail
  go_ret
  exact ⟨rfl, Below.refl _ _⟩

set_option maxRecDepth 100000 in
set_option maxHeartbeats 4000000 in
theorem same15_zero (w : World) : Calls Tryz.prog 7 #[.agg #[.slice none 0 0, .string ⟨#[]⟩, .bool false, .int .u8 0, .int .i64 0, .slice none 0 0, .string ⟨#[]⟩, .string ⟨#[]⟩, .string ⟨#[]⟩, .string ⟨#[]⟩], .agg #[.slice none 0 0, .string ⟨#[]⟩, .bool false, .int .u8 0, .int .i64 0, .slice none 0 0, .string ⟨#[]⟩, .string ⟨#[]⟩, .string ⟨#[]⟩, .string ⟨#[]⟩]] w fun e w' => e = .returned (.bool true) ∧ Below w.heap.size w w' := by
  go_enter Tryz.func7, Tryz.ntmps7
  go_wp2_with fail
  refine name_world (Q := fun W1 => Calls _ _ _ W1 _) _ fun W1 hW1 => ?_
  have hB1 : Below w.heap.size w W1 := by rw [hW1]; exact ((Below.refl _ w).alloc (Nat.le_refl _) _).alloc (by simp) _
  have hz1 : CB w.heap.size cmdZ W1 := by rw [hW1]; exact blk_alloc (cb_new w) _
  have hz2 : CB (w.heap.size + 1) cmdZ W1 := by
    rw [hW1]
    have := cb_new (w.alloc (.cells #[.slice none 0 0, .string ⟨#[]⟩, .bool false, .int .u8 0, .int .i64 0, .slice none 0 0, .string ⟨#[]⟩, .string ⟨#[]⟩, .string ⟨#[]⟩, .string ⟨#[]⟩] 25 (0, 0)))
    simpa using this
  clear hW1
  refine (same14_nil W1).mono ?_
  rintro e w2 ⟨rfl, hb2⟩
  have x5 := cell_below (ten_cells hz1).2.2.2.2.2.1 hb2
  have y5 := cell_below (ten_cells hz2).2.2.2.2.2.1 hb2
  simp only [cmdZ] at x5 y5
  go_wp2_with fail
  refine (same14_nil w2).mono ?_
  rintro e w3 ⟨rfl, hb3⟩
  go_wp2_with fail
  go_ret
  have h1 := hB1.size
  have h2 := hb2.size
  exact ⟨rfl, (hB1.trans (hb2.mono h1)).trans (hb3.mono (by omega))⟩

end Go.Proofs.YthajagmccaaanaaGreatDoor
