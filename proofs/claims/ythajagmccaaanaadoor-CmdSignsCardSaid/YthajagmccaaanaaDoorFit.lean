/- Bounds of small numbers; remainders. -/
import Derived.Test.YthajagmccaaanaaDoorRv
namespace Go.Proofs.YthajagmccaaanaaDoor
open Go.RowKit

theorem fit8 {a : Int} (h : (Lit.int .u8 a).wf = true) : 0 ≤ a ∧ a ≤ 255 := by
  simp only [Lit.wf, Bool.and_eq_true, decide_eq_true_eq] at h
  exact h
theorem fit16 {a : Int} (h : (Lit.int .u16 a).wf = true) : 0 ≤ a ∧ a ≤ 65535 := by
  simp only [Lit.wf, Bool.and_eq_true, decide_eq_true_eq] at h
  exact h
theorem mod_nat {a : Int} (h0 : 0 ≤ a) (n : Nat) (hn : 0 < n) : ∃ i : Nat, i < n ∧ a.tmod (n : Int) = (i : Int) := by
  refine ⟨(a % (n : Int)).toNat, ?_, ?_⟩
  · have h1 := Int.emod_lt_of_pos a (b := (n : Int)) (by omega)
    have h2 := Int.emod_nonneg a (b := (n : Int)) (by omega)
    omega
  · have h2 := Int.emod_nonneg a (b := (n : Int)) (by omega)
    rw [Int.tmod_eq_emod_of_nonneg h0]
    omega
theorem nat_of {a : Int} (h0 : 0 ≤ a) : ∃ n : Nat, a = (n : Int) := ⟨a.toNat, by omega⟩
end Go.Proofs.YthajagmccaaanaaDoor
