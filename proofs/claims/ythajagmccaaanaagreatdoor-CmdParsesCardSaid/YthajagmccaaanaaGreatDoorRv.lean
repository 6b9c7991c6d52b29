/- Plain laws on parseR: the range's value is only handed on. -/
import Derived.Test.YthajagmccaaanaaGreatDoorLaw
namespace Go.Proofs.YthajagmccaaanaaGreatDoor
open Go

def rvO (v : Value) : Option (Cm × Bs) → Option (Cm × Bs)
  | none => none
  | some (c, l) => some ({ c with rv := v }, l)
def rvE {α : Type} (v : Value) : Except Int (Cm × α) → Except Int (Cm × α)
  | .error n => .error n
  | .ok (c, x) => .ok ({ c with rv := v }, x)
def adsE (ads : List Ad) : Except Int (Cm × List Ad × List Ad) → Except Int (Cm × List Ad × List Ad)
  | .error n => .error n
  | .ok (c, _, d) => .ok (c, ads, d)

theorem numberC_any' (c : Cm) (l : Bs) (v : Value) : numberC { c with rv := v } l = rvO v (numberC c l) := by
  unfold numberC
  simp only
  by_cases h1 : 9 < (digs (blanks l)).length
  · rw [if_pos h1, if_pos h1]; rfl
  · rw [if_neg h1, if_neg h1]
    by_cases h2 : (digs (blanks l)).length = 0
    · rw [if_pos h2, if_pos h2]; rfl
    · rw [if_neg h2, if_neg h2]; rfl
theorem flaggedC_any' (c : Cm) (l : Bs) (v : Value) : flaggedC { c with rv := v } l = rvO v (flaggedC c l) := by
  unfold flaggedC
  exact numberC_any' { c with flags := _ } _ v
theorem subC_any' (c : Cm) (l : Bs) (v : Value) : subC { c with rv := v } l = rvO v (subC c l) := by
  unfold subC
  cases signC l with
  | none => exact flaggedC_any' _ _ _
  | some p =>
    obtain ⟨x, t⟩ := p
    exact flaggedC_any' { c with pat := _, arg := _, rep := _ } _ v
theorem globalC_any' (c : Cm) (l : Bs) (v : Value) : globalC { c with rv := v } l = rvO v (globalC c l) := by
  unfold globalC
  cases signC l with
  | none => rfl
  | some p => rfl
theorem markC_any' (c : Cm) (l : Bs) (v : Value) : markC { c with rv := v } l = rvO v (markC c l) := by
  unfold markC
  cases blanks l <;> rfl
theorem keysC_any' (c : Cm) (l : Bs) (v : Value) : keysC { c with rv := v } l = rvO v (keysC c l) := by
  unfold keysC
  cases l with
  | nil => rfl
  | cons x t =>
    simp only
    by_cases h : blk (x.toNat : Int) = true
    · rw [if_pos h]
      cases t <;> rfl
    · rw [if_neg h]
      rfl
theorem registerC_any' (c : Cm) (l : Bs) (v : Value) : registerC { c with rv := v } l = ({ (registerC c l).1 with rv := v }, (registerC c l).2) := by
  unfold registerC
  cases blanks l with
  | nil => rfl
  | cons x t =>
    simp only
    by_cases h : isDig x = true
    · rw [if_pos h, if_pos h]
    · rw [if_neg h, if_neg h]
theorem ofOpt_any' (n : Int) (r : Option (Cm × Bs)) (v : Value) : ofOpt n (rvO v r) = rvE v (ofOpt n r) := by
  rcases r with _ | ⟨c, l⟩ <;> rfl
theorem moreL_any' (c : Cm) (l : Bs) (v : Value) : moreL { c with rv := v } l = rvE v (moreL c l) := by
  unfold moreL
  simp only
  generalize cls c.name = k
  rcases k with _ | _ | _ | _ | _ | _ | _ | _ | _ | k
  · simp only [registerC_any', numberC_any', ofOpt_any']
  · simp only [registerC_any']; rfl
  · simp only [Nat.zero_add, numberC_any', ofOpt_any']
  · simp only [Nat.zero_add, Nat.reduceAdd]
    cases rangeL l with
    | none => rfl
    | some p =>
      obtain ⟨ads, r⟩ := p
      simp only
      by_cases h : ads.length = 1
      · rw [if_pos h, if_pos h]; rfl
      · rw [if_neg h, if_neg h]; rfl
  · simp only [Nat.zero_add, Nat.reduceAdd, markC_any', ofOpt_any']
  · simp only [Nat.zero_add, Nat.reduceAdd, subC_any', ofOpt_any']
  · simp only [Nat.zero_add, Nat.reduceAdd, flaggedC_any', ofOpt_any']
  · simp only [Nat.zero_add, Nat.reduceAdd, globalC_any', ofOpt_any']
  · simp only [Nat.zero_add, Nat.reduceAdd, keysC_any', ofOpt_any']
  · rfl
theorem bangC_any' (c : Cm) (l : Bs) (v : Value) : bangC { c with rv := v } l = ({ (bangC c l).1 with rv := v }, (bangC c l).2) := by
  unfold bangC
  simp only
  by_cases h : Lib.hasPrefix l [33] = true ∧ isBold c.name = true
  · rw [if_pos h, if_pos h]
  · rw [if_neg h, if_neg h]
theorem nameC_any' (c : Cm) (l : Bs) (v : Value) : nameC { c with rv := v } l = rvO v (nameC c l) := by
  unfold nameC
  cases l with
  | nil => rfl
  | cons x t =>
    simp only
    by_cases h1 : x = 62 ∨ x = 60
    · rw [if_pos h1, if_pos h1]; rfl
    · rw [if_neg h1, if_neg h1]
      by_cases h2 : Lib.hasPrefix (x :: t) [38, 38] = true
      · rw [if_pos h2, if_pos h2]; rfl
      · rw [if_neg h2, if_neg h2]
        by_cases h3 : [38, 126, 64, 61].contains x = true
        · rw [if_pos h3, if_pos h3]; rfl
        · rw [if_neg h3, if_neg h3]
          cases wordIn (x :: t) (wordsAt x) <;> rfl
theorem bodyL_rv (u v : Value) (ads : List Ad) (r : Bs) : bodyL v ads r = rvE v (bodyL u ads r) := by
  unfold bodyL
  rw [show cmd0 v = { cmd0 u with rv := v } from rfl, nameC_any']
  cases nameC (cmd0 u) r with
  | none => rfl
  | some p =>
    obtain ⟨c, l⟩ := p
    simp only [rvO]
    rw [bangC_any']
    simp only
    rw [moreL_any']
    generalize moreL _ _ = m
    rcases m with k | ⟨c', d, l'⟩
    · rfl
    · simp only [rvE, endL]
      cases blanks l' <;> rfl
theorem bodyL_ads (v : Value) (ads ads' : List Ad) (r : Bs) : bodyL v ads' r = adsE ads' (bodyL v ads r) := by
  unfold bodyL
  cases nameC (cmd0 v) r with
  | none => rfl
  | some p =>
    obtain ⟨c, l⟩ := p
    simp only
    generalize moreL _ _ = m
    rcases m with k | ⟨c', d, l'⟩
    · rfl
    · simp only [endL]
      cases blanks l' <;> rfl
theorem parseR_rv' (u v : Value) (s : Bs) : parseR v s = rvE v (parseR u s) := by
  unfold parseR
  by_cases h : 1000 < s.length
  · rw [if_pos h, if_pos h]; rfl
  · rw [if_neg h, if_neg h]
    cases rangeL s with
    | none => rfl
    | some p => exact bodyL_rv u v _ _
theorem parse_cases (s : Bs) : (∃ k : Int, ∀ v : Value, parseR v s = .error k) ∨ (∃ (c : Cm) (ads dst : List Ad), ∀ v : Value, parseR v s = .ok ({ c with rv := v }, ads, dst)) := by
  cases h : parseR .nilFunc s with
  | error k => exact .inl ⟨k, fun v => by rw [parseR_rv' .nilFunc v, h]; rfl⟩
  | ok p =>
    obtain ⟨c, ads, dst⟩ := p
    exact .inr ⟨c, ads, dst, fun v => by rw [parseR_rv' .nilFunc v, h]; rfl⟩
theorem parseR_short {v : Value} {s : Bs} (h : s.length ≤ 1000) : parseR v s = match rangeL s with | none => .error 141 | some (ads, r) => bodyL v ads r := by
  unfold parseR
  exact if_neg (by omega)
theorem parseR_letter {v : Value} {x : UInt8} {t : Bs} (hx : starts x = true) (h : (x :: t).length ≤ 1000) : parseR v (x :: t) = bodyL v [] (x :: t) := by
  rw [parseR_short h, rangeL_letter x t hx]
end Go.Proofs.YthajagmccaaanaaGreatDoor
