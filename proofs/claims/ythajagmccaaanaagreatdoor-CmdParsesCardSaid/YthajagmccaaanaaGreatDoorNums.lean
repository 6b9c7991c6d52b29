/- Plain laws on digits and numbers. -/
import Derived.Test.YthajagmccaaanaaGreatDoorSpec
namespace Go.Proofs.YthajagmccaaanaaGreatDoor
open Go

theorem digs_le (l : Bs) : (digs l).length ≤ l.length := (List.takeWhile_sublist _).length_le
theorem digs_take (l : Bs) : l.take (digs l).length = digs l := (List.prefix_iff_eq_take.1 (List.takeWhile_prefix _)).symm
theorem digs_nil : digs [] = [] := rfl
theorem digs_cons (c : UInt8) (l : Bs) : digs (c :: l) = if isDig c then c :: digs l else [] := by
  unfold digs
  rw [List.takeWhile_cons]
theorem digs_step (l : Bs) : ∀ k, k ≤ (digs l).length → ∀ h : k < l.length, isDig l[k] = true → k + 1 ≤ (digs l).length := by
  induction l with
  | nil => intro k _ h; simp at h
  | cons c l ih =>
    intro k hk h hd
    rw [digs_cons] at hk ⊢
    cases k with
    | zero => simp at hd; simp [hd]
    | succ k =>
      split at hk
      · rename_i hc
        rw [if_pos hc]
        simp at hk hd ⊢
        exact ih k hk (by simpa using h) hd
      · simp at hk
theorem digs_stop (l : Bs) : ∀ k, k ≤ (digs l).length → (∀ h : k < l.length, isDig l[k] = false) → (digs l).length = k := by
  induction l with
  | nil => intro k hk _; simp [digs_nil] at hk ⊢; omega
  | cons c l ih =>
    intro k hk h
    rw [digs_cons] at hk ⊢
    cases k with
    | zero => have := h (by simp); simp at this; simp [this]
    | succ k =>
      split at hk
      · rename_i hc
        rw [if_pos hc]
        simp at hk ⊢
        exact ih k hk (fun h' => by have := h (by simp; omega); simpa using this)
      · simp at hk
theorem val_snoc (l : Bs) (c : UInt8) : val (l ++ [c]) = 10 * val l + (c.toNat - 48) := by simp [val]
theorem val_take (l : Bs) (k : Nat) (h : k < l.length) : val (l.take (k + 1)) = 10 * val (l.take k) + (l[k].toNat - 48) := by
  rw [List.take_succ_eq_append_getElem h, val_snoc]
theorem val_lt' (l : Bs) : ∀ n, (∀ c ∈ l, isDig c = true) → l.foldl (fun n c => 10 * n + (c.toNat - 48)) n < (n + 1) * 10 ^ l.length := by
  induction l with
  | nil => intro n _; simp
  | cons c l ih =>
    intro n h
    have h2 := h c (by simp)
    simp only [isDig, decide_eq_true_eq] at h2
    have h1 := ih (10 * n + (c.toNat - 48)) (fun x hx => h x (by simp [hx]))
    simp only [List.foldl_cons, List.length_cons, Nat.pow_succ]
    refine Nat.lt_of_lt_of_le h1 ?_
    have : (10 * n + (c.toNat - 48) + 1) * 10 ^ l.length ≤ ((n + 1) * 10) * 10 ^ l.length := Nat.mul_le_mul_right _ (by omega)
    rw [Nat.mul_comm (10 ^ l.length) 10, ← Nat.mul_assoc]
    exact this
theorem val_lt (l : Bs) (h : ∀ c ∈ l, isDig c = true) : val l < 10 ^ l.length := by
  have := val_lt' l 0 h
  simpa [val] using this
theorem digs_all (l : Bs) : ∀ c ∈ digs l, isDig c = true := by
  induction l with
  | nil => intro c hc; simp [digs_nil] at hc
  | cons x l ih =>
    intro c hc
    rw [digs_cons] at hc
    split at hc
    · rename_i hx
      rcases List.mem_cons.1 hc with rfl | hc
      · exact hx
      · exact ih c hc
    · simp at hc
theorem val_digs_lt (l : Bs) (k : Nat) (hk : k ≤ (digs l).length) (h9 : k ≤ 9) : val (l.take k) < 10 ^ 9 := by
  have h1 : ∀ c ∈ l.take k, isDig c = true := by
    intro c hc
    have : l.take k = (digs l).take k := by rw [← digs_take l, List.take_take, Nat.min_eq_left hk]
    rw [this] at hc
    exact digs_all l c (List.mem_of_mem_take hc)
  have h2 := val_lt _ h1
  have h3 : (l.take k).length ≤ 9 := by simp; omega
  exact Nat.lt_of_lt_of_le h2 (Nat.pow_le_pow_right (by omega) h3)
end Go.Proofs.YthajagmccaaanaaGreatDoor
