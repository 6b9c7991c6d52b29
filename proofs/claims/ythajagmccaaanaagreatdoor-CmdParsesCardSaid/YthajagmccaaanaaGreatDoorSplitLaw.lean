/- Plain laws on splitL. -/
import Derived.Test.YthajagmccaaanaaGreatDoorSpec
namespace Go.Proofs.YthajagmccaaanaaGreatDoor
open Go

theorem splitL_nil (c : UInt8) : splitL c [] = ([], 0) := by simp [splitL]
theorem splitL_esc (c y : UInt8) (r : Bs) : splitL c (92 :: y :: r) = ((if y = c then [y] else [92, y]) ++ (splitL c r).1, (splitL c r).2 + 2) := by
  rw [splitL]; simp
theorem splitL_sign (c : UInt8) (r : Bs) (h : c = 92 → r = []) : splitL c (c :: r) = ([], 1) := by
  cases r with
  | nil => simp [splitL]
  | cons y r =>
    have : c ≠ 92 := fun e => by simpa using h e
    rw [splitL]
    simp [this]
theorem splitL_other (c x : UInt8) (r : Bs) (h : x = 92 → r = []) (hc : x ≠ c) : splitL c (x :: r) = (x :: (splitL c r).1, (splitL c r).2 + 1) := by
  cases r with
  | nil => simp [splitL, hc]
  | cons y r =>
    have : x ≠ 92 := fun e => by simpa using h e
    rw [splitL]
    simp [this, hc]
theorem splitL_len (c : UInt8) : ∀ n (l : Bs), l.length ≤ n → (splitL c l).1.length ≤ l.length ∧ (splitL c l).2 ≤ l.length
  | 0, l, h => by
    have : l = [] := List.eq_nil_of_length_eq_zero (by omega)
    subst this
    simp [splitL_nil]
  | n + 1, [], _ => by simp [splitL_nil]
  | n + 1, [x], _ => by
    simp only [splitL]
    split <;> simp
  | n + 1, x :: y :: r, h => by
    have h1 := splitL_len c n r (by simp at h; omega)
    have h2 := splitL_len c n (y :: r) (by simp at h ⊢; omega)
    rw [splitL]
    split
    · constructor
      · split <;> simp <;> omega
      · simp; omega
    · split
      · simp
      · simp at h2 ⊢; omega
end Go.Proofs.YthajagmccaaanaaGreatDoor
