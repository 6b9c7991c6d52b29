/- Plain laws on parseR. -/
import Derived.Test.YthajagmccaaanaaGreatDoorRefuses
namespace Go.Proofs.YthajagmccaaanaaGreatDoor
open Go

/-- A byte with which a command's name may begin. -/
def starts (x : UInt8) : Bool := !([32, 9, 58, 37, 46, 36, 39, 47, 63, 43, 45, 44, 59].contains x || isDig x)
theorem rangeL_letter (x : UInt8) (t : Bs) (h : starts x = true) : rangeL (x :: t) = some ([], x :: t) := by
  unfold starts at h
  simp only [Bool.not_eq_true', Bool.or_eq_false_iff, List.contains_cons, List.contains_nil, Bool.or_false, beq_eq_false_iff_ne] at h
  obtain ⟨⟨h1, h2, h3, h4, h5, h6, h7, h8, h9, h10, h11, h12, h13⟩, hd⟩ := h
  have hdg : digs (x :: t) = [] := by rw [digs_cons, hd]; rfl
  have hn : numL (x :: t) = some (0, false, x :: t) := by unfold numL; rw [hdg]; rfl
  have hb : baseL (x :: t) = some (⟨2, 0, 0, [], 0, false⟩, false, x :: t) := by
    unfold baseL; rw [hn]; simp only [h5, h6, h7, h8, h9, if_false]
  have ho : offsL (x :: t).length 0 false (x :: t) = some (0, false, x :: t) := by
    rw [List.length_cons, offsL]; simp only [h10, h11, or_self, if_false]
  have h1' : oneL (x :: t) = some (⟨2, 0, 0, [], 0, false⟩, false, x :: t) := by unfold oneL; rw [hb]; simp only [ho]
  have hbl : blanks (x :: t) = x :: t := by
    unfold blanks Lib.trimLeftS
    rw [List.dropWhile_cons]
    simp [h1, h2]
  have htr : Lib.trimLeftS (x :: t) [32, 9, 58] = x :: t := by
    unfold Lib.trimLeftS
    rw [List.dropWhile_cons]
    simp [h1, h2, h3]
  unfold rangeL
  rw [htr]
  simp only [h4, if_false]
  rw [adsL, h1']
  simp only [hbl, h12, h13, or_self, if_false]
  simp
end Go.Proofs.YthajagmccaaanaaGreatDoor
