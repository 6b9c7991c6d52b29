/- Plain law: the best of the reference's words is the one that the table gives. -/
import Derived.Test.YthajagmccaaanaaGreatDoorWordLaw
namespace Go.Proofs.YthajagmccaaanaaGreatDoor
open Go

def LW : List Bs := [[100], [100, 101, 108, 101, 116, 101], [109], [109, 111, 118, 101], [116], [99, 111], [99, 111, 112, 121], [106], [106, 111, 105, 110], [121], [121, 97, 110, 107], [112, 117], [112, 117, 116], [107], [109, 97, 114, 107], [115], [115, 117, 98, 115, 116, 105, 116, 117, 116, 101], [103], [103, 108, 111, 98, 97, 108], [118], [118, 103, 108, 111, 98, 97, 108], [110, 111, 114, 109], [110, 111, 114, 109, 97, 108], [117], [117, 110, 100, 111], [114, 101, 100], [114, 101, 100, 111], [101, 97, 114, 108, 105, 101, 114], [108, 97, 116, 101, 114], [112], [112, 114, 105, 110, 116]]
def SW : List Bs := [[100], [100], [109], [109], [116], [116], [116], [106], [106], [121], [121], [112, 117], [112, 117], [107], [107], [115], [115], [103], [103], [118], [118], [110, 111, 114, 109], [110, 111, 114, 109], [117], [117], [114, 101, 100], [114, 101, 100], [101, 97, 114, 108, 105, 101, 114], [108, 97, 116, 101, 114], [112], [112]]
def longer (best : Option Nat) (i : Nat) : Bool := match best with
  | none => true
  | some j => decide ((LW.getD j []).length < (LW.getD i []).length)
def bestAt (l : Bs) : Nat → Option Nat
  | 0 => none
  | i + 1 => if Lib.hasPrefix l (LW.getD i []) && longer (bestAt l i) i then some i else bestAt l i
theorem bestAt_lt (l : Bs) : ∀ i j, bestAt l i = some j → j < i := by
  intro i
  induction i with
  | zero => intro j h; cases h
  | succ i ih =>
    intro j h
    unfold bestAt at h
    split at h
    · cases h; omega
    · have := ih j h; omega
theorem best_skip {l : Bs} {i : Nat} (h : Lib.hasPrefix l (LW.getD i []) = false) : bestAt l (i + 1) = bestAt l i := by
  rw [bestAt, h]; rfl
theorem best_take {l : Bs} {i : Nat} (h : Lib.hasPrefix l (LW.getD i []) = true) (hb : longer (bestAt l i) i = true) : bestAt l (i + 1) = some i := by
  rw [bestAt, h, hb]; rfl
theorem hp_first {x y : UInt8} {t p : Bs} (h : x ≠ y) : Lib.hasPrefix (x :: t) (y :: p) = false := by
  rw [hp_cons]
  simp [Ne.symm h]
theorem best_99 (t : Bs) : wordIn (99 :: t) (wordsAt 99) = (bestAt (99 :: t) 31).map (fun j => (LW.getD j [], SW.getD j [])) := by
  rw [show wordsAt 99 = [([99, 111, 112, 121], [116]), ([99, 111], [116])] from rfl]
  obtain ⟨q5, h5⟩ : ∃ q, Lib.hasPrefix (99 :: t) [99, 111] = q := ⟨_, rfl⟩
  obtain ⟨q6, h6⟩ : ∃ q, Lib.hasPrefix (99 :: t) [99, 111, 112, 121] = q := ⟨_, rfl⟩
  have e0 : bestAt (99 :: t) 0 = none := rfl
  have e1 : bestAt (99 :: t) 1 = bestAt (99 :: t) 0 := best_skip (hp_first (by decide))
  have e2 : bestAt (99 :: t) 2 = bestAt (99 :: t) 1 := best_skip (hp_first (by decide))
  have e3 : bestAt (99 :: t) 3 = bestAt (99 :: t) 2 := best_skip (hp_first (by decide))
  have e4 : bestAt (99 :: t) 4 = bestAt (99 :: t) 3 := best_skip (hp_first (by decide))
  have e5 : bestAt (99 :: t) 5 = bestAt (99 :: t) 4 := best_skip (hp_first (by decide))
  have e6 : bestAt (99 :: t) 6 = if q5 && longer (bestAt (99 :: t) 5) 5 then some 5 else bestAt (99 :: t) 5 := by show (if Lib.hasPrefix (99 :: t) (LW.getD 5 []) && longer (bestAt (99 :: t) 5) 5 then some 5 else bestAt (99 :: t) 5) = _; rw [show LW.getD 5 [] = [99, 111] from rfl, h5]
  have e7 : bestAt (99 :: t) 7 = if q6 && longer (bestAt (99 :: t) 6) 6 then some 6 else bestAt (99 :: t) 6 := by show (if Lib.hasPrefix (99 :: t) (LW.getD 6 []) && longer (bestAt (99 :: t) 6) 6 then some 6 else bestAt (99 :: t) 6) = _; rw [show LW.getD 6 [] = [99, 111, 112, 121] from rfl, h6]
  have e8 : bestAt (99 :: t) 8 = bestAt (99 :: t) 7 := best_skip (hp_first (by decide))
  have e9 : bestAt (99 :: t) 9 = bestAt (99 :: t) 8 := best_skip (hp_first (by decide))
  have e10 : bestAt (99 :: t) 10 = bestAt (99 :: t) 9 := best_skip (hp_first (by decide))
  have e11 : bestAt (99 :: t) 11 = bestAt (99 :: t) 10 := best_skip (hp_first (by decide))
  have e12 : bestAt (99 :: t) 12 = bestAt (99 :: t) 11 := best_skip (hp_first (by decide))
  have e13 : bestAt (99 :: t) 13 = bestAt (99 :: t) 12 := best_skip (hp_first (by decide))
  have e14 : bestAt (99 :: t) 14 = bestAt (99 :: t) 13 := best_skip (hp_first (by decide))
  have e15 : bestAt (99 :: t) 15 = bestAt (99 :: t) 14 := best_skip (hp_first (by decide))
  have e16 : bestAt (99 :: t) 16 = bestAt (99 :: t) 15 := best_skip (hp_first (by decide))
  have e17 : bestAt (99 :: t) 17 = bestAt (99 :: t) 16 := best_skip (hp_first (by decide))
  have e18 : bestAt (99 :: t) 18 = bestAt (99 :: t) 17 := best_skip (hp_first (by decide))
  have e19 : bestAt (99 :: t) 19 = bestAt (99 :: t) 18 := best_skip (hp_first (by decide))
  have e20 : bestAt (99 :: t) 20 = bestAt (99 :: t) 19 := best_skip (hp_first (by decide))
  have e21 : bestAt (99 :: t) 21 = bestAt (99 :: t) 20 := best_skip (hp_first (by decide))
  have e22 : bestAt (99 :: t) 22 = bestAt (99 :: t) 21 := best_skip (hp_first (by decide))
  have e23 : bestAt (99 :: t) 23 = bestAt (99 :: t) 22 := best_skip (hp_first (by decide))
  have e24 : bestAt (99 :: t) 24 = bestAt (99 :: t) 23 := best_skip (hp_first (by decide))
  have e25 : bestAt (99 :: t) 25 = bestAt (99 :: t) 24 := best_skip (hp_first (by decide))
  have e26 : bestAt (99 :: t) 26 = bestAt (99 :: t) 25 := best_skip (hp_first (by decide))
  have e27 : bestAt (99 :: t) 27 = bestAt (99 :: t) 26 := best_skip (hp_first (by decide))
  have e28 : bestAt (99 :: t) 28 = bestAt (99 :: t) 27 := best_skip (hp_first (by decide))
  have e29 : bestAt (99 :: t) 29 = bestAt (99 :: t) 28 := best_skip (hp_first (by decide))
  have e30 : bestAt (99 :: t) 30 = bestAt (99 :: t) 29 := best_skip (hp_first (by decide))
  have e31 : bestAt (99 :: t) 31 = bestAt (99 :: t) 30 := best_skip (hp_first (by decide))
  rw [e31, e30, e29, e28, e27, e26, e25, e24, e23, e22, e21, e20, e19, e18, e17, e16, e15, e14, e13, e12, e11, e10, e9, e8]
  simp only [wordIn, h5, h6]
  simp only [e7, e6, e5, e4, e3, e2, e1, e0]
  cases q5 <;> cases q6 <;> rfl
theorem best_100 (t : Bs) : wordIn (100 :: t) (wordsAt 100) = (bestAt (100 :: t) 31).map (fun j => (LW.getD j [], SW.getD j [])) := by
  rw [show wordsAt 100 = [([100, 101, 108, 101, 116, 101], [100]), ([100], [100])] from rfl]
  have h0 : Lib.hasPrefix (100 :: t) [100] = true := by rw [hp_cons, hp_nil]; rfl
  obtain ⟨q1, h1⟩ : ∃ q, Lib.hasPrefix (100 :: t) [100, 101, 108, 101, 116, 101] = q := ⟨_, rfl⟩
  have e0 : bestAt (100 :: t) 0 = none := rfl
  have e1 : bestAt (100 :: t) 1 = if true && longer (bestAt (100 :: t) 0) 0 then some 0 else bestAt (100 :: t) 0 := by show (if Lib.hasPrefix (100 :: t) (LW.getD 0 []) && longer (bestAt (100 :: t) 0) 0 then some 0 else bestAt (100 :: t) 0) = _; rw [show LW.getD 0 [] = [100] from rfl, h0]
  have e2 : bestAt (100 :: t) 2 = if q1 && longer (bestAt (100 :: t) 1) 1 then some 1 else bestAt (100 :: t) 1 := by show (if Lib.hasPrefix (100 :: t) (LW.getD 1 []) && longer (bestAt (100 :: t) 1) 1 then some 1 else bestAt (100 :: t) 1) = _; rw [show LW.getD 1 [] = [100, 101, 108, 101, 116, 101] from rfl, h1]
  have e3 : bestAt (100 :: t) 3 = bestAt (100 :: t) 2 := best_skip (hp_first (by decide))
  have e4 : bestAt (100 :: t) 4 = bestAt (100 :: t) 3 := best_skip (hp_first (by decide))
  have e5 : bestAt (100 :: t) 5 = bestAt (100 :: t) 4 := best_skip (hp_first (by decide))
  have e6 : bestAt (100 :: t) 6 = bestAt (100 :: t) 5 := best_skip (hp_first (by decide))
  have e7 : bestAt (100 :: t) 7 = bestAt (100 :: t) 6 := best_skip (hp_first (by decide))
  have e8 : bestAt (100 :: t) 8 = bestAt (100 :: t) 7 := best_skip (hp_first (by decide))
  have e9 : bestAt (100 :: t) 9 = bestAt (100 :: t) 8 := best_skip (hp_first (by decide))
  have e10 : bestAt (100 :: t) 10 = bestAt (100 :: t) 9 := best_skip (hp_first (by decide))
  have e11 : bestAt (100 :: t) 11 = bestAt (100 :: t) 10 := best_skip (hp_first (by decide))
  have e12 : bestAt (100 :: t) 12 = bestAt (100 :: t) 11 := best_skip (hp_first (by decide))
  have e13 : bestAt (100 :: t) 13 = bestAt (100 :: t) 12 := best_skip (hp_first (by decide))
  have e14 : bestAt (100 :: t) 14 = bestAt (100 :: t) 13 := best_skip (hp_first (by decide))
  have e15 : bestAt (100 :: t) 15 = bestAt (100 :: t) 14 := best_skip (hp_first (by decide))
  have e16 : bestAt (100 :: t) 16 = bestAt (100 :: t) 15 := best_skip (hp_first (by decide))
  have e17 : bestAt (100 :: t) 17 = bestAt (100 :: t) 16 := best_skip (hp_first (by decide))
  have e18 : bestAt (100 :: t) 18 = bestAt (100 :: t) 17 := best_skip (hp_first (by decide))
  have e19 : bestAt (100 :: t) 19 = bestAt (100 :: t) 18 := best_skip (hp_first (by decide))
  have e20 : bestAt (100 :: t) 20 = bestAt (100 :: t) 19 := best_skip (hp_first (by decide))
  have e21 : bestAt (100 :: t) 21 = bestAt (100 :: t) 20 := best_skip (hp_first (by decide))
  have e22 : bestAt (100 :: t) 22 = bestAt (100 :: t) 21 := best_skip (hp_first (by decide))
  have e23 : bestAt (100 :: t) 23 = bestAt (100 :: t) 22 := best_skip (hp_first (by decide))
  have e24 : bestAt (100 :: t) 24 = bestAt (100 :: t) 23 := best_skip (hp_first (by decide))
  have e25 : bestAt (100 :: t) 25 = bestAt (100 :: t) 24 := best_skip (hp_first (by decide))
  have e26 : bestAt (100 :: t) 26 = bestAt (100 :: t) 25 := best_skip (hp_first (by decide))
  have e27 : bestAt (100 :: t) 27 = bestAt (100 :: t) 26 := best_skip (hp_first (by decide))
  have e28 : bestAt (100 :: t) 28 = bestAt (100 :: t) 27 := best_skip (hp_first (by decide))
  have e29 : bestAt (100 :: t) 29 = bestAt (100 :: t) 28 := best_skip (hp_first (by decide))
  have e30 : bestAt (100 :: t) 30 = bestAt (100 :: t) 29 := best_skip (hp_first (by decide))
  have e31 : bestAt (100 :: t) 31 = bestAt (100 :: t) 30 := best_skip (hp_first (by decide))
  rw [e31, e30, e29, e28, e27, e26, e25, e24, e23, e22, e21, e20, e19, e18, e17, e16, e15, e14, e13, e12, e11, e10, e9, e8, e7, e6, e5, e4, e3]
  simp only [wordIn, h0, h1]
  simp only [e2, e1, e0]
  cases q1 <;> rfl
theorem best_101 (t : Bs) : wordIn (101 :: t) (wordsAt 101) = (bestAt (101 :: t) 31).map (fun j => (LW.getD j [], SW.getD j [])) := by
  rw [show wordsAt 101 = [([101, 97, 114, 108, 105, 101, 114], [101, 97, 114, 108, 105, 101, 114])] from rfl]
  obtain ⟨q27, h27⟩ : ∃ q, Lib.hasPrefix (101 :: t) [101, 97, 114, 108, 105, 101, 114] = q := ⟨_, rfl⟩
  have e0 : bestAt (101 :: t) 0 = none := rfl
  have e1 : bestAt (101 :: t) 1 = bestAt (101 :: t) 0 := best_skip (hp_first (by decide))
  have e2 : bestAt (101 :: t) 2 = bestAt (101 :: t) 1 := best_skip (hp_first (by decide))
  have e3 : bestAt (101 :: t) 3 = bestAt (101 :: t) 2 := best_skip (hp_first (by decide))
  have e4 : bestAt (101 :: t) 4 = bestAt (101 :: t) 3 := best_skip (hp_first (by decide))
  have e5 : bestAt (101 :: t) 5 = bestAt (101 :: t) 4 := best_skip (hp_first (by decide))
  have e6 : bestAt (101 :: t) 6 = bestAt (101 :: t) 5 := best_skip (hp_first (by decide))
  have e7 : bestAt (101 :: t) 7 = bestAt (101 :: t) 6 := best_skip (hp_first (by decide))
  have e8 : bestAt (101 :: t) 8 = bestAt (101 :: t) 7 := best_skip (hp_first (by decide))
  have e9 : bestAt (101 :: t) 9 = bestAt (101 :: t) 8 := best_skip (hp_first (by decide))
  have e10 : bestAt (101 :: t) 10 = bestAt (101 :: t) 9 := best_skip (hp_first (by decide))
  have e11 : bestAt (101 :: t) 11 = bestAt (101 :: t) 10 := best_skip (hp_first (by decide))
  have e12 : bestAt (101 :: t) 12 = bestAt (101 :: t) 11 := best_skip (hp_first (by decide))
  have e13 : bestAt (101 :: t) 13 = bestAt (101 :: t) 12 := best_skip (hp_first (by decide))
  have e14 : bestAt (101 :: t) 14 = bestAt (101 :: t) 13 := best_skip (hp_first (by decide))
  have e15 : bestAt (101 :: t) 15 = bestAt (101 :: t) 14 := best_skip (hp_first (by decide))
  have e16 : bestAt (101 :: t) 16 = bestAt (101 :: t) 15 := best_skip (hp_first (by decide))
  have e17 : bestAt (101 :: t) 17 = bestAt (101 :: t) 16 := best_skip (hp_first (by decide))
  have e18 : bestAt (101 :: t) 18 = bestAt (101 :: t) 17 := best_skip (hp_first (by decide))
  have e19 : bestAt (101 :: t) 19 = bestAt (101 :: t) 18 := best_skip (hp_first (by decide))
  have e20 : bestAt (101 :: t) 20 = bestAt (101 :: t) 19 := best_skip (hp_first (by decide))
  have e21 : bestAt (101 :: t) 21 = bestAt (101 :: t) 20 := best_skip (hp_first (by decide))
  have e22 : bestAt (101 :: t) 22 = bestAt (101 :: t) 21 := best_skip (hp_first (by decide))
  have e23 : bestAt (101 :: t) 23 = bestAt (101 :: t) 22 := best_skip (hp_first (by decide))
  have e24 : bestAt (101 :: t) 24 = bestAt (101 :: t) 23 := best_skip (hp_first (by decide))
  have e25 : bestAt (101 :: t) 25 = bestAt (101 :: t) 24 := best_skip (hp_first (by decide))
  have e26 : bestAt (101 :: t) 26 = bestAt (101 :: t) 25 := best_skip (hp_first (by decide))
  have e27 : bestAt (101 :: t) 27 = bestAt (101 :: t) 26 := best_skip (hp_first (by decide))
  have e28 : bestAt (101 :: t) 28 = if q27 && longer (bestAt (101 :: t) 27) 27 then some 27 else bestAt (101 :: t) 27 := by show (if Lib.hasPrefix (101 :: t) (LW.getD 27 []) && longer (bestAt (101 :: t) 27) 27 then some 27 else bestAt (101 :: t) 27) = _; rw [show LW.getD 27 [] = [101, 97, 114, 108, 105, 101, 114] from rfl, h27]
  have e29 : bestAt (101 :: t) 29 = bestAt (101 :: t) 28 := best_skip (hp_first (by decide))
  have e30 : bestAt (101 :: t) 30 = bestAt (101 :: t) 29 := best_skip (hp_first (by decide))
  have e31 : bestAt (101 :: t) 31 = bestAt (101 :: t) 30 := best_skip (hp_first (by decide))
  rw [e31, e30, e29]
  simp only [wordIn, h27]
  simp only [e28, e27, e26, e25, e24, e23, e22, e21, e20, e19, e18, e17, e16, e15, e14, e13, e12, e11, e10, e9, e8, e7, e6, e5, e4, e3, e2, e1, e0]
  cases q27 <;> rfl
theorem best_103 (t : Bs) : wordIn (103 :: t) (wordsAt 103) = (bestAt (103 :: t) 31).map (fun j => (LW.getD j [], SW.getD j [])) := by
  rw [show wordsAt 103 = [([103, 108, 111, 98, 97, 108], [103]), ([103], [103])] from rfl]
  have h17 : Lib.hasPrefix (103 :: t) [103] = true := by rw [hp_cons, hp_nil]; rfl
  obtain ⟨q18, h18⟩ : ∃ q, Lib.hasPrefix (103 :: t) [103, 108, 111, 98, 97, 108] = q := ⟨_, rfl⟩
  have e0 : bestAt (103 :: t) 0 = none := rfl
  have e1 : bestAt (103 :: t) 1 = bestAt (103 :: t) 0 := best_skip (hp_first (by decide))
  have e2 : bestAt (103 :: t) 2 = bestAt (103 :: t) 1 := best_skip (hp_first (by decide))
  have e3 : bestAt (103 :: t) 3 = bestAt (103 :: t) 2 := best_skip (hp_first (by decide))
  have e4 : bestAt (103 :: t) 4 = bestAt (103 :: t) 3 := best_skip (hp_first (by decide))
  have e5 : bestAt (103 :: t) 5 = bestAt (103 :: t) 4 := best_skip (hp_first (by decide))
  have e6 : bestAt (103 :: t) 6 = bestAt (103 :: t) 5 := best_skip (hp_first (by decide))
  have e7 : bestAt (103 :: t) 7 = bestAt (103 :: t) 6 := best_skip (hp_first (by decide))
  have e8 : bestAt (103 :: t) 8 = bestAt (103 :: t) 7 := best_skip (hp_first (by decide))
  have e9 : bestAt (103 :: t) 9 = bestAt (103 :: t) 8 := best_skip (hp_first (by decide))
  have e10 : bestAt (103 :: t) 10 = bestAt (103 :: t) 9 := best_skip (hp_first (by decide))
  have e11 : bestAt (103 :: t) 11 = bestAt (103 :: t) 10 := best_skip (hp_first (by decide))
  have e12 : bestAt (103 :: t) 12 = bestAt (103 :: t) 11 := best_skip (hp_first (by decide))
  have e13 : bestAt (103 :: t) 13 = bestAt (103 :: t) 12 := best_skip (hp_first (by decide))
  have e14 : bestAt (103 :: t) 14 = bestAt (103 :: t) 13 := best_skip (hp_first (by decide))
  have e15 : bestAt (103 :: t) 15 = bestAt (103 :: t) 14 := best_skip (hp_first (by decide))
  have e16 : bestAt (103 :: t) 16 = bestAt (103 :: t) 15 := best_skip (hp_first (by decide))
  have e17 : bestAt (103 :: t) 17 = bestAt (103 :: t) 16 := best_skip (hp_first (by decide))
  have e18 : bestAt (103 :: t) 18 = if true && longer (bestAt (103 :: t) 17) 17 then some 17 else bestAt (103 :: t) 17 := by show (if Lib.hasPrefix (103 :: t) (LW.getD 17 []) && longer (bestAt (103 :: t) 17) 17 then some 17 else bestAt (103 :: t) 17) = _; rw [show LW.getD 17 [] = [103] from rfl, h17]
  have e19 : bestAt (103 :: t) 19 = if q18 && longer (bestAt (103 :: t) 18) 18 then some 18 else bestAt (103 :: t) 18 := by show (if Lib.hasPrefix (103 :: t) (LW.getD 18 []) && longer (bestAt (103 :: t) 18) 18 then some 18 else bestAt (103 :: t) 18) = _; rw [show LW.getD 18 [] = [103, 108, 111, 98, 97, 108] from rfl, h18]
  have e20 : bestAt (103 :: t) 20 = bestAt (103 :: t) 19 := best_skip (hp_first (by decide))
  have e21 : bestAt (103 :: t) 21 = bestAt (103 :: t) 20 := best_skip (hp_first (by decide))
  have e22 : bestAt (103 :: t) 22 = bestAt (103 :: t) 21 := best_skip (hp_first (by decide))
  have e23 : bestAt (103 :: t) 23 = bestAt (103 :: t) 22 := best_skip (hp_first (by decide))
  have e24 : bestAt (103 :: t) 24 = bestAt (103 :: t) 23 := best_skip (hp_first (by decide))
  have e25 : bestAt (103 :: t) 25 = bestAt (103 :: t) 24 := best_skip (hp_first (by decide))
  have e26 : bestAt (103 :: t) 26 = bestAt (103 :: t) 25 := best_skip (hp_first (by decide))
  have e27 : bestAt (103 :: t) 27 = bestAt (103 :: t) 26 := best_skip (hp_first (by decide))
  have e28 : bestAt (103 :: t) 28 = bestAt (103 :: t) 27 := best_skip (hp_first (by decide))
  have e29 : bestAt (103 :: t) 29 = bestAt (103 :: t) 28 := best_skip (hp_first (by decide))
  have e30 : bestAt (103 :: t) 30 = bestAt (103 :: t) 29 := best_skip (hp_first (by decide))
  have e31 : bestAt (103 :: t) 31 = bestAt (103 :: t) 30 := best_skip (hp_first (by decide))
  rw [e31, e30, e29, e28, e27, e26, e25, e24, e23, e22, e21, e20]
  simp only [wordIn, h17, h18]
  simp only [e19, e18, e17, e16, e15, e14, e13, e12, e11, e10, e9, e8, e7, e6, e5, e4, e3, e2, e1, e0]
  cases q18 <;> rfl
theorem best_106 (t : Bs) : wordIn (106 :: t) (wordsAt 106) = (bestAt (106 :: t) 31).map (fun j => (LW.getD j [], SW.getD j [])) := by
  rw [show wordsAt 106 = [([106, 111, 105, 110], [106]), ([106], [106])] from rfl]
  have h7 : Lib.hasPrefix (106 :: t) [106] = true := by rw [hp_cons, hp_nil]; rfl
  obtain ⟨q8, h8⟩ : ∃ q, Lib.hasPrefix (106 :: t) [106, 111, 105, 110] = q := ⟨_, rfl⟩
  have e0 : bestAt (106 :: t) 0 = none := rfl
  have e1 : bestAt (106 :: t) 1 = bestAt (106 :: t) 0 := best_skip (hp_first (by decide))
  have e2 : bestAt (106 :: t) 2 = bestAt (106 :: t) 1 := best_skip (hp_first (by decide))
  have e3 : bestAt (106 :: t) 3 = bestAt (106 :: t) 2 := best_skip (hp_first (by decide))
  have e4 : bestAt (106 :: t) 4 = bestAt (106 :: t) 3 := best_skip (hp_first (by decide))
  have e5 : bestAt (106 :: t) 5 = bestAt (106 :: t) 4 := best_skip (hp_first (by decide))
  have e6 : bestAt (106 :: t) 6 = bestAt (106 :: t) 5 := best_skip (hp_first (by decide))
  have e7 : bestAt (106 :: t) 7 = bestAt (106 :: t) 6 := best_skip (hp_first (by decide))
  have e8 : bestAt (106 :: t) 8 = if true && longer (bestAt (106 :: t) 7) 7 then some 7 else bestAt (106 :: t) 7 := by show (if Lib.hasPrefix (106 :: t) (LW.getD 7 []) && longer (bestAt (106 :: t) 7) 7 then some 7 else bestAt (106 :: t) 7) = _; rw [show LW.getD 7 [] = [106] from rfl, h7]
  have e9 : bestAt (106 :: t) 9 = if q8 && longer (bestAt (106 :: t) 8) 8 then some 8 else bestAt (106 :: t) 8 := by show (if Lib.hasPrefix (106 :: t) (LW.getD 8 []) && longer (bestAt (106 :: t) 8) 8 then some 8 else bestAt (106 :: t) 8) = _; rw [show LW.getD 8 [] = [106, 111, 105, 110] from rfl, h8]
  have e10 : bestAt (106 :: t) 10 = bestAt (106 :: t) 9 := best_skip (hp_first (by decide))
  have e11 : bestAt (106 :: t) 11 = bestAt (106 :: t) 10 := best_skip (hp_first (by decide))
  have e12 : bestAt (106 :: t) 12 = bestAt (106 :: t) 11 := best_skip (hp_first (by decide))
  have e13 : bestAt (106 :: t) 13 = bestAt (106 :: t) 12 := best_skip (hp_first (by decide))
  have e14 : bestAt (106 :: t) 14 = bestAt (106 :: t) 13 := best_skip (hp_first (by decide))
  have e15 : bestAt (106 :: t) 15 = bestAt (106 :: t) 14 := best_skip (hp_first (by decide))
  have e16 : bestAt (106 :: t) 16 = bestAt (106 :: t) 15 := best_skip (hp_first (by decide))
  have e17 : bestAt (106 :: t) 17 = bestAt (106 :: t) 16 := best_skip (hp_first (by decide))
  have e18 : bestAt (106 :: t) 18 = bestAt (106 :: t) 17 := best_skip (hp_first (by decide))
  have e19 : bestAt (106 :: t) 19 = bestAt (106 :: t) 18 := best_skip (hp_first (by decide))
  have e20 : bestAt (106 :: t) 20 = bestAt (106 :: t) 19 := best_skip (hp_first (by decide))
  have e21 : bestAt (106 :: t) 21 = bestAt (106 :: t) 20 := best_skip (hp_first (by decide))
  have e22 : bestAt (106 :: t) 22 = bestAt (106 :: t) 21 := best_skip (hp_first (by decide))
  have e23 : bestAt (106 :: t) 23 = bestAt (106 :: t) 22 := best_skip (hp_first (by decide))
  have e24 : bestAt (106 :: t) 24 = bestAt (106 :: t) 23 := best_skip (hp_first (by decide))
  have e25 : bestAt (106 :: t) 25 = bestAt (106 :: t) 24 := best_skip (hp_first (by decide))
  have e26 : bestAt (106 :: t) 26 = bestAt (106 :: t) 25 := best_skip (hp_first (by decide))
  have e27 : bestAt (106 :: t) 27 = bestAt (106 :: t) 26 := best_skip (hp_first (by decide))
  have e28 : bestAt (106 :: t) 28 = bestAt (106 :: t) 27 := best_skip (hp_first (by decide))
  have e29 : bestAt (106 :: t) 29 = bestAt (106 :: t) 28 := best_skip (hp_first (by decide))
  have e30 : bestAt (106 :: t) 30 = bestAt (106 :: t) 29 := best_skip (hp_first (by decide))
  have e31 : bestAt (106 :: t) 31 = bestAt (106 :: t) 30 := best_skip (hp_first (by decide))
  rw [e31, e30, e29, e28, e27, e26, e25, e24, e23, e22, e21, e20, e19, e18, e17, e16, e15, e14, e13, e12, e11, e10]
  simp only [wordIn, h7, h8]
  simp only [e9, e8, e7, e6, e5, e4, e3, e2, e1, e0]
  cases q8 <;> rfl
theorem best_107 (t : Bs) : wordIn (107 :: t) (wordsAt 107) = (bestAt (107 :: t) 31).map (fun j => (LW.getD j [], SW.getD j [])) := by
  rw [show wordsAt 107 = [([107], [107])] from rfl]
  have h13 : Lib.hasPrefix (107 :: t) [107] = true := by rw [hp_cons, hp_nil]; rfl
  have e0 : bestAt (107 :: t) 0 = none := rfl
  have e1 : bestAt (107 :: t) 1 = bestAt (107 :: t) 0 := best_skip (hp_first (by decide))
  have e2 : bestAt (107 :: t) 2 = bestAt (107 :: t) 1 := best_skip (hp_first (by decide))
  have e3 : bestAt (107 :: t) 3 = bestAt (107 :: t) 2 := best_skip (hp_first (by decide))
  have e4 : bestAt (107 :: t) 4 = bestAt (107 :: t) 3 := best_skip (hp_first (by decide))
  have e5 : bestAt (107 :: t) 5 = bestAt (107 :: t) 4 := best_skip (hp_first (by decide))
  have e6 : bestAt (107 :: t) 6 = bestAt (107 :: t) 5 := best_skip (hp_first (by decide))
  have e7 : bestAt (107 :: t) 7 = bestAt (107 :: t) 6 := best_skip (hp_first (by decide))
  have e8 : bestAt (107 :: t) 8 = bestAt (107 :: t) 7 := best_skip (hp_first (by decide))
  have e9 : bestAt (107 :: t) 9 = bestAt (107 :: t) 8 := best_skip (hp_first (by decide))
  have e10 : bestAt (107 :: t) 10 = bestAt (107 :: t) 9 := best_skip (hp_first (by decide))
  have e11 : bestAt (107 :: t) 11 = bestAt (107 :: t) 10 := best_skip (hp_first (by decide))
  have e12 : bestAt (107 :: t) 12 = bestAt (107 :: t) 11 := best_skip (hp_first (by decide))
  have e13 : bestAt (107 :: t) 13 = bestAt (107 :: t) 12 := best_skip (hp_first (by decide))
  have e14 : bestAt (107 :: t) 14 = if true && longer (bestAt (107 :: t) 13) 13 then some 13 else bestAt (107 :: t) 13 := by show (if Lib.hasPrefix (107 :: t) (LW.getD 13 []) && longer (bestAt (107 :: t) 13) 13 then some 13 else bestAt (107 :: t) 13) = _; rw [show LW.getD 13 [] = [107] from rfl, h13]
  have e15 : bestAt (107 :: t) 15 = bestAt (107 :: t) 14 := best_skip (hp_first (by decide))
  have e16 : bestAt (107 :: t) 16 = bestAt (107 :: t) 15 := best_skip (hp_first (by decide))
  have e17 : bestAt (107 :: t) 17 = bestAt (107 :: t) 16 := best_skip (hp_first (by decide))
  have e18 : bestAt (107 :: t) 18 = bestAt (107 :: t) 17 := best_skip (hp_first (by decide))
  have e19 : bestAt (107 :: t) 19 = bestAt (107 :: t) 18 := best_skip (hp_first (by decide))
  have e20 : bestAt (107 :: t) 20 = bestAt (107 :: t) 19 := best_skip (hp_first (by decide))
  have e21 : bestAt (107 :: t) 21 = bestAt (107 :: t) 20 := best_skip (hp_first (by decide))
  have e22 : bestAt (107 :: t) 22 = bestAt (107 :: t) 21 := best_skip (hp_first (by decide))
  have e23 : bestAt (107 :: t) 23 = bestAt (107 :: t) 22 := best_skip (hp_first (by decide))
  have e24 : bestAt (107 :: t) 24 = bestAt (107 :: t) 23 := best_skip (hp_first (by decide))
  have e25 : bestAt (107 :: t) 25 = bestAt (107 :: t) 24 := best_skip (hp_first (by decide))
  have e26 : bestAt (107 :: t) 26 = bestAt (107 :: t) 25 := best_skip (hp_first (by decide))
  have e27 : bestAt (107 :: t) 27 = bestAt (107 :: t) 26 := best_skip (hp_first (by decide))
  have e28 : bestAt (107 :: t) 28 = bestAt (107 :: t) 27 := best_skip (hp_first (by decide))
  have e29 : bestAt (107 :: t) 29 = bestAt (107 :: t) 28 := best_skip (hp_first (by decide))
  have e30 : bestAt (107 :: t) 30 = bestAt (107 :: t) 29 := best_skip (hp_first (by decide))
  have e31 : bestAt (107 :: t) 31 = bestAt (107 :: t) 30 := best_skip (hp_first (by decide))
  rw [e31, e30, e29, e28, e27, e26, e25, e24, e23, e22, e21, e20, e19, e18, e17, e16, e15]
  simp only [wordIn, h13]
  simp only [e14, e13, e12, e11, e10, e9, e8, e7, e6, e5, e4, e3, e2, e1, e0]
  rfl
theorem best_108 (t : Bs) : wordIn (108 :: t) (wordsAt 108) = (bestAt (108 :: t) 31).map (fun j => (LW.getD j [], SW.getD j [])) := by
  rw [show wordsAt 108 = [([108, 97, 116, 101, 114], [108, 97, 116, 101, 114])] from rfl]
  obtain ⟨q28, h28⟩ : ∃ q, Lib.hasPrefix (108 :: t) [108, 97, 116, 101, 114] = q := ⟨_, rfl⟩
  have e0 : bestAt (108 :: t) 0 = none := rfl
  have e1 : bestAt (108 :: t) 1 = bestAt (108 :: t) 0 := best_skip (hp_first (by decide))
  have e2 : bestAt (108 :: t) 2 = bestAt (108 :: t) 1 := best_skip (hp_first (by decide))
  have e3 : bestAt (108 :: t) 3 = bestAt (108 :: t) 2 := best_skip (hp_first (by decide))
  have e4 : bestAt (108 :: t) 4 = bestAt (108 :: t) 3 := best_skip (hp_first (by decide))
  have e5 : bestAt (108 :: t) 5 = bestAt (108 :: t) 4 := best_skip (hp_first (by decide))
  have e6 : bestAt (108 :: t) 6 = bestAt (108 :: t) 5 := best_skip (hp_first (by decide))
  have e7 : bestAt (108 :: t) 7 = bestAt (108 :: t) 6 := best_skip (hp_first (by decide))
  have e8 : bestAt (108 :: t) 8 = bestAt (108 :: t) 7 := best_skip (hp_first (by decide))
  have e9 : bestAt (108 :: t) 9 = bestAt (108 :: t) 8 := best_skip (hp_first (by decide))
  have e10 : bestAt (108 :: t) 10 = bestAt (108 :: t) 9 := best_skip (hp_first (by decide))
  have e11 : bestAt (108 :: t) 11 = bestAt (108 :: t) 10 := best_skip (hp_first (by decide))
  have e12 : bestAt (108 :: t) 12 = bestAt (108 :: t) 11 := best_skip (hp_first (by decide))
  have e13 : bestAt (108 :: t) 13 = bestAt (108 :: t) 12 := best_skip (hp_first (by decide))
  have e14 : bestAt (108 :: t) 14 = bestAt (108 :: t) 13 := best_skip (hp_first (by decide))
  have e15 : bestAt (108 :: t) 15 = bestAt (108 :: t) 14 := best_skip (hp_first (by decide))
  have e16 : bestAt (108 :: t) 16 = bestAt (108 :: t) 15 := best_skip (hp_first (by decide))
  have e17 : bestAt (108 :: t) 17 = bestAt (108 :: t) 16 := best_skip (hp_first (by decide))
  have e18 : bestAt (108 :: t) 18 = bestAt (108 :: t) 17 := best_skip (hp_first (by decide))
  have e19 : bestAt (108 :: t) 19 = bestAt (108 :: t) 18 := best_skip (hp_first (by decide))
  have e20 : bestAt (108 :: t) 20 = bestAt (108 :: t) 19 := best_skip (hp_first (by decide))
  have e21 : bestAt (108 :: t) 21 = bestAt (108 :: t) 20 := best_skip (hp_first (by decide))
  have e22 : bestAt (108 :: t) 22 = bestAt (108 :: t) 21 := best_skip (hp_first (by decide))
  have e23 : bestAt (108 :: t) 23 = bestAt (108 :: t) 22 := best_skip (hp_first (by decide))
  have e24 : bestAt (108 :: t) 24 = bestAt (108 :: t) 23 := best_skip (hp_first (by decide))
  have e25 : bestAt (108 :: t) 25 = bestAt (108 :: t) 24 := best_skip (hp_first (by decide))
  have e26 : bestAt (108 :: t) 26 = bestAt (108 :: t) 25 := best_skip (hp_first (by decide))
  have e27 : bestAt (108 :: t) 27 = bestAt (108 :: t) 26 := best_skip (hp_first (by decide))
  have e28 : bestAt (108 :: t) 28 = bestAt (108 :: t) 27 := best_skip (hp_first (by decide))
  have e29 : bestAt (108 :: t) 29 = if q28 && longer (bestAt (108 :: t) 28) 28 then some 28 else bestAt (108 :: t) 28 := by show (if Lib.hasPrefix (108 :: t) (LW.getD 28 []) && longer (bestAt (108 :: t) 28) 28 then some 28 else bestAt (108 :: t) 28) = _; rw [show LW.getD 28 [] = [108, 97, 116, 101, 114] from rfl, h28]
  have e30 : bestAt (108 :: t) 30 = bestAt (108 :: t) 29 := best_skip (hp_first (by decide))
  have e31 : bestAt (108 :: t) 31 = bestAt (108 :: t) 30 := best_skip (hp_first (by decide))
  rw [e31, e30]
  simp only [wordIn, h28]
  simp only [e29, e28, e27, e26, e25, e24, e23, e22, e21, e20, e19, e18, e17, e16, e15, e14, e13, e12, e11, e10, e9, e8, e7, e6, e5, e4, e3, e2, e1, e0]
  cases q28 <;> rfl
theorem best_109 (t : Bs) : wordIn (109 :: t) (wordsAt 109) = (bestAt (109 :: t) 31).map (fun j => (LW.getD j [], SW.getD j [])) := by
  rw [show wordsAt 109 = [([109, 111, 118, 101], [109]), ([109, 97, 114, 107], [107]), ([109], [109])] from rfl]
  have h2 : Lib.hasPrefix (109 :: t) [109] = true := by rw [hp_cons, hp_nil]; rfl
  obtain ⟨q3, h3⟩ : ∃ q, Lib.hasPrefix (109 :: t) [109, 111, 118, 101] = q := ⟨_, rfl⟩
  obtain ⟨q14, h14⟩ : ∃ q, Lib.hasPrefix (109 :: t) [109, 97, 114, 107] = q := ⟨_, rfl⟩
  have e0 : bestAt (109 :: t) 0 = none := rfl
  have e1 : bestAt (109 :: t) 1 = bestAt (109 :: t) 0 := best_skip (hp_first (by decide))
  have e2 : bestAt (109 :: t) 2 = bestAt (109 :: t) 1 := best_skip (hp_first (by decide))
  have e3 : bestAt (109 :: t) 3 = if true && longer (bestAt (109 :: t) 2) 2 then some 2 else bestAt (109 :: t) 2 := by show (if Lib.hasPrefix (109 :: t) (LW.getD 2 []) && longer (bestAt (109 :: t) 2) 2 then some 2 else bestAt (109 :: t) 2) = _; rw [show LW.getD 2 [] = [109] from rfl, h2]
  have e4 : bestAt (109 :: t) 4 = if q3 && longer (bestAt (109 :: t) 3) 3 then some 3 else bestAt (109 :: t) 3 := by show (if Lib.hasPrefix (109 :: t) (LW.getD 3 []) && longer (bestAt (109 :: t) 3) 3 then some 3 else bestAt (109 :: t) 3) = _; rw [show LW.getD 3 [] = [109, 111, 118, 101] from rfl, h3]
  have e5 : bestAt (109 :: t) 5 = bestAt (109 :: t) 4 := best_skip (hp_first (by decide))
  have e6 : bestAt (109 :: t) 6 = bestAt (109 :: t) 5 := best_skip (hp_first (by decide))
  have e7 : bestAt (109 :: t) 7 = bestAt (109 :: t) 6 := best_skip (hp_first (by decide))
  have e8 : bestAt (109 :: t) 8 = bestAt (109 :: t) 7 := best_skip (hp_first (by decide))
  have e9 : bestAt (109 :: t) 9 = bestAt (109 :: t) 8 := best_skip (hp_first (by decide))
  have e10 : bestAt (109 :: t) 10 = bestAt (109 :: t) 9 := best_skip (hp_first (by decide))
  have e11 : bestAt (109 :: t) 11 = bestAt (109 :: t) 10 := best_skip (hp_first (by decide))
  have e12 : bestAt (109 :: t) 12 = bestAt (109 :: t) 11 := best_skip (hp_first (by decide))
  have e13 : bestAt (109 :: t) 13 = bestAt (109 :: t) 12 := best_skip (hp_first (by decide))
  have e14 : bestAt (109 :: t) 14 = bestAt (109 :: t) 13 := best_skip (hp_first (by decide))
  have e15 : bestAt (109 :: t) 15 = if q14 && longer (bestAt (109 :: t) 14) 14 then some 14 else bestAt (109 :: t) 14 := by show (if Lib.hasPrefix (109 :: t) (LW.getD 14 []) && longer (bestAt (109 :: t) 14) 14 then some 14 else bestAt (109 :: t) 14) = _; rw [show LW.getD 14 [] = [109, 97, 114, 107] from rfl, h14]
  have e16 : bestAt (109 :: t) 16 = bestAt (109 :: t) 15 := best_skip (hp_first (by decide))
  have e17 : bestAt (109 :: t) 17 = bestAt (109 :: t) 16 := best_skip (hp_first (by decide))
  have e18 : bestAt (109 :: t) 18 = bestAt (109 :: t) 17 := best_skip (hp_first (by decide))
  have e19 : bestAt (109 :: t) 19 = bestAt (109 :: t) 18 := best_skip (hp_first (by decide))
  have e20 : bestAt (109 :: t) 20 = bestAt (109 :: t) 19 := best_skip (hp_first (by decide))
  have e21 : bestAt (109 :: t) 21 = bestAt (109 :: t) 20 := best_skip (hp_first (by decide))
  have e22 : bestAt (109 :: t) 22 = bestAt (109 :: t) 21 := best_skip (hp_first (by decide))
  have e23 : bestAt (109 :: t) 23 = bestAt (109 :: t) 22 := best_skip (hp_first (by decide))
  have e24 : bestAt (109 :: t) 24 = bestAt (109 :: t) 23 := best_skip (hp_first (by decide))
  have e25 : bestAt (109 :: t) 25 = bestAt (109 :: t) 24 := best_skip (hp_first (by decide))
  have e26 : bestAt (109 :: t) 26 = bestAt (109 :: t) 25 := best_skip (hp_first (by decide))
  have e27 : bestAt (109 :: t) 27 = bestAt (109 :: t) 26 := best_skip (hp_first (by decide))
  have e28 : bestAt (109 :: t) 28 = bestAt (109 :: t) 27 := best_skip (hp_first (by decide))
  have e29 : bestAt (109 :: t) 29 = bestAt (109 :: t) 28 := best_skip (hp_first (by decide))
  have e30 : bestAt (109 :: t) 30 = bestAt (109 :: t) 29 := best_skip (hp_first (by decide))
  have e31 : bestAt (109 :: t) 31 = bestAt (109 :: t) 30 := best_skip (hp_first (by decide))
  rw [e31, e30, e29, e28, e27, e26, e25, e24, e23, e22, e21, e20, e19, e18, e17, e16]
  simp only [wordIn, h2, h3, h14]
  simp only [e15, e14, e13, e12, e11, e10, e9, e8, e7, e6, e5, e4, e3, e2, e1, e0]
  cases q3 <;> cases q14 <;> rfl
theorem best_110 (t : Bs) : wordIn (110 :: t) (wordsAt 110) = (bestAt (110 :: t) 31).map (fun j => (LW.getD j [], SW.getD j [])) := by
  rw [show wordsAt 110 = [([110, 111, 114, 109, 97, 108], [110, 111, 114, 109]), ([110, 111, 114, 109], [110, 111, 114, 109])] from rfl]
  obtain ⟨q21, h21⟩ : ∃ q, Lib.hasPrefix (110 :: t) [110, 111, 114, 109] = q := ⟨_, rfl⟩
  obtain ⟨q22, h22⟩ : ∃ q, Lib.hasPrefix (110 :: t) [110, 111, 114, 109, 97, 108] = q := ⟨_, rfl⟩
  have e0 : bestAt (110 :: t) 0 = none := rfl
  have e1 : bestAt (110 :: t) 1 = bestAt (110 :: t) 0 := best_skip (hp_first (by decide))
  have e2 : bestAt (110 :: t) 2 = bestAt (110 :: t) 1 := best_skip (hp_first (by decide))
  have e3 : bestAt (110 :: t) 3 = bestAt (110 :: t) 2 := best_skip (hp_first (by decide))
  have e4 : bestAt (110 :: t) 4 = bestAt (110 :: t) 3 := best_skip (hp_first (by decide))
  have e5 : bestAt (110 :: t) 5 = bestAt (110 :: t) 4 := best_skip (hp_first (by decide))
  have e6 : bestAt (110 :: t) 6 = bestAt (110 :: t) 5 := best_skip (hp_first (by decide))
  have e7 : bestAt (110 :: t) 7 = bestAt (110 :: t) 6 := best_skip (hp_first (by decide))
  have e8 : bestAt (110 :: t) 8 = bestAt (110 :: t) 7 := best_skip (hp_first (by decide))
  have e9 : bestAt (110 :: t) 9 = bestAt (110 :: t) 8 := best_skip (hp_first (by decide))
  have e10 : bestAt (110 :: t) 10 = bestAt (110 :: t) 9 := best_skip (hp_first (by decide))
  have e11 : bestAt (110 :: t) 11 = bestAt (110 :: t) 10 := best_skip (hp_first (by decide))
  have e12 : bestAt (110 :: t) 12 = bestAt (110 :: t) 11 := best_skip (hp_first (by decide))
  have e13 : bestAt (110 :: t) 13 = bestAt (110 :: t) 12 := best_skip (hp_first (by decide))
  have e14 : bestAt (110 :: t) 14 = bestAt (110 :: t) 13 := best_skip (hp_first (by decide))
  have e15 : bestAt (110 :: t) 15 = bestAt (110 :: t) 14 := best_skip (hp_first (by decide))
  have e16 : bestAt (110 :: t) 16 = bestAt (110 :: t) 15 := best_skip (hp_first (by decide))
  have e17 : bestAt (110 :: t) 17 = bestAt (110 :: t) 16 := best_skip (hp_first (by decide))
  have e18 : bestAt (110 :: t) 18 = bestAt (110 :: t) 17 := best_skip (hp_first (by decide))
  have e19 : bestAt (110 :: t) 19 = bestAt (110 :: t) 18 := best_skip (hp_first (by decide))
  have e20 : bestAt (110 :: t) 20 = bestAt (110 :: t) 19 := best_skip (hp_first (by decide))
  have e21 : bestAt (110 :: t) 21 = bestAt (110 :: t) 20 := best_skip (hp_first (by decide))
  have e22 : bestAt (110 :: t) 22 = if q21 && longer (bestAt (110 :: t) 21) 21 then some 21 else bestAt (110 :: t) 21 := by show (if Lib.hasPrefix (110 :: t) (LW.getD 21 []) && longer (bestAt (110 :: t) 21) 21 then some 21 else bestAt (110 :: t) 21) = _; rw [show LW.getD 21 [] = [110, 111, 114, 109] from rfl, h21]
  have e23 : bestAt (110 :: t) 23 = if q22 && longer (bestAt (110 :: t) 22) 22 then some 22 else bestAt (110 :: t) 22 := by show (if Lib.hasPrefix (110 :: t) (LW.getD 22 []) && longer (bestAt (110 :: t) 22) 22 then some 22 else bestAt (110 :: t) 22) = _; rw [show LW.getD 22 [] = [110, 111, 114, 109, 97, 108] from rfl, h22]
  have e24 : bestAt (110 :: t) 24 = bestAt (110 :: t) 23 := best_skip (hp_first (by decide))
  have e25 : bestAt (110 :: t) 25 = bestAt (110 :: t) 24 := best_skip (hp_first (by decide))
  have e26 : bestAt (110 :: t) 26 = bestAt (110 :: t) 25 := best_skip (hp_first (by decide))
  have e27 : bestAt (110 :: t) 27 = bestAt (110 :: t) 26 := best_skip (hp_first (by decide))
  have e28 : bestAt (110 :: t) 28 = bestAt (110 :: t) 27 := best_skip (hp_first (by decide))
  have e29 : bestAt (110 :: t) 29 = bestAt (110 :: t) 28 := best_skip (hp_first (by decide))
  have e30 : bestAt (110 :: t) 30 = bestAt (110 :: t) 29 := best_skip (hp_first (by decide))
  have e31 : bestAt (110 :: t) 31 = bestAt (110 :: t) 30 := best_skip (hp_first (by decide))
  rw [e31, e30, e29, e28, e27, e26, e25, e24]
  simp only [wordIn, h21, h22]
  simp only [e23, e22, e21, e20, e19, e18, e17, e16, e15, e14, e13, e12, e11, e10, e9, e8, e7, e6, e5, e4, e3, e2, e1, e0]
  cases q21 <;> cases q22 <;> rfl
theorem best_112 (t : Bs) : wordIn (112 :: t) (wordsAt 112) = (bestAt (112 :: t) 31).map (fun j => (LW.getD j [], SW.getD j [])) := by
  rw [show wordsAt 112 = [([112, 114, 105, 110, 116], [112]), ([112, 117, 116], [112, 117]), ([112, 117], [112, 117]), ([112], [112])] from rfl]
  have h29 : Lib.hasPrefix (112 :: t) [112] = true := by rw [hp_cons, hp_nil]; rfl
  obtain ⟨q11, h11⟩ : ∃ q, Lib.hasPrefix (112 :: t) [112, 117] = q := ⟨_, rfl⟩
  obtain ⟨q12, h12⟩ : ∃ q, Lib.hasPrefix (112 :: t) [112, 117, 116] = q := ⟨_, rfl⟩
  obtain ⟨q30, h30⟩ : ∃ q, Lib.hasPrefix (112 :: t) [112, 114, 105, 110, 116] = q := ⟨_, rfl⟩
  have e0 : bestAt (112 :: t) 0 = none := rfl
  have e1 : bestAt (112 :: t) 1 = bestAt (112 :: t) 0 := best_skip (hp_first (by decide))
  have e2 : bestAt (112 :: t) 2 = bestAt (112 :: t) 1 := best_skip (hp_first (by decide))
  have e3 : bestAt (112 :: t) 3 = bestAt (112 :: t) 2 := best_skip (hp_first (by decide))
  have e4 : bestAt (112 :: t) 4 = bestAt (112 :: t) 3 := best_skip (hp_first (by decide))
  have e5 : bestAt (112 :: t) 5 = bestAt (112 :: t) 4 := best_skip (hp_first (by decide))
  have e6 : bestAt (112 :: t) 6 = bestAt (112 :: t) 5 := best_skip (hp_first (by decide))
  have e7 : bestAt (112 :: t) 7 = bestAt (112 :: t) 6 := best_skip (hp_first (by decide))
  have e8 : bestAt (112 :: t) 8 = bestAt (112 :: t) 7 := best_skip (hp_first (by decide))
  have e9 : bestAt (112 :: t) 9 = bestAt (112 :: t) 8 := best_skip (hp_first (by decide))
  have e10 : bestAt (112 :: t) 10 = bestAt (112 :: t) 9 := best_skip (hp_first (by decide))
  have e11 : bestAt (112 :: t) 11 = bestAt (112 :: t) 10 := best_skip (hp_first (by decide))
  have e12 : bestAt (112 :: t) 12 = if q11 && longer (bestAt (112 :: t) 11) 11 then some 11 else bestAt (112 :: t) 11 := by show (if Lib.hasPrefix (112 :: t) (LW.getD 11 []) && longer (bestAt (112 :: t) 11) 11 then some 11 else bestAt (112 :: t) 11) = _; rw [show LW.getD 11 [] = [112, 117] from rfl, h11]
  have e13 : bestAt (112 :: t) 13 = if q12 && longer (bestAt (112 :: t) 12) 12 then some 12 else bestAt (112 :: t) 12 := by show (if Lib.hasPrefix (112 :: t) (LW.getD 12 []) && longer (bestAt (112 :: t) 12) 12 then some 12 else bestAt (112 :: t) 12) = _; rw [show LW.getD 12 [] = [112, 117, 116] from rfl, h12]
  have e14 : bestAt (112 :: t) 14 = bestAt (112 :: t) 13 := best_skip (hp_first (by decide))
  have e15 : bestAt (112 :: t) 15 = bestAt (112 :: t) 14 := best_skip (hp_first (by decide))
  have e16 : bestAt (112 :: t) 16 = bestAt (112 :: t) 15 := best_skip (hp_first (by decide))
  have e17 : bestAt (112 :: t) 17 = bestAt (112 :: t) 16 := best_skip (hp_first (by decide))
  have e18 : bestAt (112 :: t) 18 = bestAt (112 :: t) 17 := best_skip (hp_first (by decide))
  have e19 : bestAt (112 :: t) 19 = bestAt (112 :: t) 18 := best_skip (hp_first (by decide))
  have e20 : bestAt (112 :: t) 20 = bestAt (112 :: t) 19 := best_skip (hp_first (by decide))
  have e21 : bestAt (112 :: t) 21 = bestAt (112 :: t) 20 := best_skip (hp_first (by decide))
  have e22 : bestAt (112 :: t) 22 = bestAt (112 :: t) 21 := best_skip (hp_first (by decide))
  have e23 : bestAt (112 :: t) 23 = bestAt (112 :: t) 22 := best_skip (hp_first (by decide))
  have e24 : bestAt (112 :: t) 24 = bestAt (112 :: t) 23 := best_skip (hp_first (by decide))
  have e25 : bestAt (112 :: t) 25 = bestAt (112 :: t) 24 := best_skip (hp_first (by decide))
  have e26 : bestAt (112 :: t) 26 = bestAt (112 :: t) 25 := best_skip (hp_first (by decide))
  have e27 : bestAt (112 :: t) 27 = bestAt (112 :: t) 26 := best_skip (hp_first (by decide))
  have e28 : bestAt (112 :: t) 28 = bestAt (112 :: t) 27 := best_skip (hp_first (by decide))
  have e29 : bestAt (112 :: t) 29 = bestAt (112 :: t) 28 := best_skip (hp_first (by decide))
  have e30 : bestAt (112 :: t) 30 = if true && longer (bestAt (112 :: t) 29) 29 then some 29 else bestAt (112 :: t) 29 := by show (if Lib.hasPrefix (112 :: t) (LW.getD 29 []) && longer (bestAt (112 :: t) 29) 29 then some 29 else bestAt (112 :: t) 29) = _; rw [show LW.getD 29 [] = [112] from rfl, h29]
  have e31 : bestAt (112 :: t) 31 = if q30 && longer (bestAt (112 :: t) 30) 30 then some 30 else bestAt (112 :: t) 30 := by show (if Lib.hasPrefix (112 :: t) (LW.getD 30 []) && longer (bestAt (112 :: t) 30) 30 then some 30 else bestAt (112 :: t) 30) = _; rw [show LW.getD 30 [] = [112, 114, 105, 110, 116] from rfl, h30]
  simp only [wordIn, h11, h12, h29, h30]
  simp only [e31, e30, e29, e28, e27, e26, e25, e24, e23, e22, e21, e20, e19, e18, e17, e16, e15, e14, e13, e12, e11, e10, e9, e8, e7, e6, e5, e4, e3, e2, e1, e0]
  cases q11 <;> cases q12 <;> cases q30 <;> rfl
theorem best_114 (t : Bs) : wordIn (114 :: t) (wordsAt 114) = (bestAt (114 :: t) 31).map (fun j => (LW.getD j [], SW.getD j [])) := by
  rw [show wordsAt 114 = [([114, 101, 100, 111], [114, 101, 100]), ([114, 101, 100], [114, 101, 100])] from rfl]
  obtain ⟨q25, h25⟩ : ∃ q, Lib.hasPrefix (114 :: t) [114, 101, 100] = q := ⟨_, rfl⟩
  obtain ⟨q26, h26⟩ : ∃ q, Lib.hasPrefix (114 :: t) [114, 101, 100, 111] = q := ⟨_, rfl⟩
  have e0 : bestAt (114 :: t) 0 = none := rfl
  have e1 : bestAt (114 :: t) 1 = bestAt (114 :: t) 0 := best_skip (hp_first (by decide))
  have e2 : bestAt (114 :: t) 2 = bestAt (114 :: t) 1 := best_skip (hp_first (by decide))
  have e3 : bestAt (114 :: t) 3 = bestAt (114 :: t) 2 := best_skip (hp_first (by decide))
  have e4 : bestAt (114 :: t) 4 = bestAt (114 :: t) 3 := best_skip (hp_first (by decide))
  have e5 : bestAt (114 :: t) 5 = bestAt (114 :: t) 4 := best_skip (hp_first (by decide))
  have e6 : bestAt (114 :: t) 6 = bestAt (114 :: t) 5 := best_skip (hp_first (by decide))
  have e7 : bestAt (114 :: t) 7 = bestAt (114 :: t) 6 := best_skip (hp_first (by decide))
  have e8 : bestAt (114 :: t) 8 = bestAt (114 :: t) 7 := best_skip (hp_first (by decide))
  have e9 : bestAt (114 :: t) 9 = bestAt (114 :: t) 8 := best_skip (hp_first (by decide))
  have e10 : bestAt (114 :: t) 10 = bestAt (114 :: t) 9 := best_skip (hp_first (by decide))
  have e11 : bestAt (114 :: t) 11 = bestAt (114 :: t) 10 := best_skip (hp_first (by decide))
  have e12 : bestAt (114 :: t) 12 = bestAt (114 :: t) 11 := best_skip (hp_first (by decide))
  have e13 : bestAt (114 :: t) 13 = bestAt (114 :: t) 12 := best_skip (hp_first (by decide))
  have e14 : bestAt (114 :: t) 14 = bestAt (114 :: t) 13 := best_skip (hp_first (by decide))
  have e15 : bestAt (114 :: t) 15 = bestAt (114 :: t) 14 := best_skip (hp_first (by decide))
  have e16 : bestAt (114 :: t) 16 = bestAt (114 :: t) 15 := best_skip (hp_first (by decide))
  have e17 : bestAt (114 :: t) 17 = bestAt (114 :: t) 16 := best_skip (hp_first (by decide))
  have e18 : bestAt (114 :: t) 18 = bestAt (114 :: t) 17 := best_skip (hp_first (by decide))
  have e19 : bestAt (114 :: t) 19 = bestAt (114 :: t) 18 := best_skip (hp_first (by decide))
  have e20 : bestAt (114 :: t) 20 = bestAt (114 :: t) 19 := best_skip (hp_first (by decide))
  have e21 : bestAt (114 :: t) 21 = bestAt (114 :: t) 20 := best_skip (hp_first (by decide))
  have e22 : bestAt (114 :: t) 22 = bestAt (114 :: t) 21 := best_skip (hp_first (by decide))
  have e23 : bestAt (114 :: t) 23 = bestAt (114 :: t) 22 := best_skip (hp_first (by decide))
  have e24 : bestAt (114 :: t) 24 = bestAt (114 :: t) 23 := best_skip (hp_first (by decide))
  have e25 : bestAt (114 :: t) 25 = bestAt (114 :: t) 24 := best_skip (hp_first (by decide))
  have e26 : bestAt (114 :: t) 26 = if q25 && longer (bestAt (114 :: t) 25) 25 then some 25 else bestAt (114 :: t) 25 := by show (if Lib.hasPrefix (114 :: t) (LW.getD 25 []) && longer (bestAt (114 :: t) 25) 25 then some 25 else bestAt (114 :: t) 25) = _; rw [show LW.getD 25 [] = [114, 101, 100] from rfl, h25]
  have e27 : bestAt (114 :: t) 27 = if q26 && longer (bestAt (114 :: t) 26) 26 then some 26 else bestAt (114 :: t) 26 := by show (if Lib.hasPrefix (114 :: t) (LW.getD 26 []) && longer (bestAt (114 :: t) 26) 26 then some 26 else bestAt (114 :: t) 26) = _; rw [show LW.getD 26 [] = [114, 101, 100, 111] from rfl, h26]
  have e28 : bestAt (114 :: t) 28 = bestAt (114 :: t) 27 := best_skip (hp_first (by decide))
  have e29 : bestAt (114 :: t) 29 = bestAt (114 :: t) 28 := best_skip (hp_first (by decide))
  have e30 : bestAt (114 :: t) 30 = bestAt (114 :: t) 29 := best_skip (hp_first (by decide))
  have e31 : bestAt (114 :: t) 31 = bestAt (114 :: t) 30 := best_skip (hp_first (by decide))
  rw [e31, e30, e29, e28]
  simp only [wordIn, h25, h26]
  simp only [e27, e26, e25, e24, e23, e22, e21, e20, e19, e18, e17, e16, e15, e14, e13, e12, e11, e10, e9, e8, e7, e6, e5, e4, e3, e2, e1, e0]
  cases q25 <;> cases q26 <;> rfl
theorem best_115 (t : Bs) : wordIn (115 :: t) (wordsAt 115) = (bestAt (115 :: t) 31).map (fun j => (LW.getD j [], SW.getD j [])) := by
  rw [show wordsAt 115 = [([115, 117, 98, 115, 116, 105, 116, 117, 116, 101], [115]), ([115], [115])] from rfl]
  have h15 : Lib.hasPrefix (115 :: t) [115] = true := by rw [hp_cons, hp_nil]; rfl
  obtain ⟨q16, h16⟩ : ∃ q, Lib.hasPrefix (115 :: t) [115, 117, 98, 115, 116, 105, 116, 117, 116, 101] = q := ⟨_, rfl⟩
  have e0 : bestAt (115 :: t) 0 = none := rfl
  have e1 : bestAt (115 :: t) 1 = bestAt (115 :: t) 0 := best_skip (hp_first (by decide))
  have e2 : bestAt (115 :: t) 2 = bestAt (115 :: t) 1 := best_skip (hp_first (by decide))
  have e3 : bestAt (115 :: t) 3 = bestAt (115 :: t) 2 := best_skip (hp_first (by decide))
  have e4 : bestAt (115 :: t) 4 = bestAt (115 :: t) 3 := best_skip (hp_first (by decide))
  have e5 : bestAt (115 :: t) 5 = bestAt (115 :: t) 4 := best_skip (hp_first (by decide))
  have e6 : bestAt (115 :: t) 6 = bestAt (115 :: t) 5 := best_skip (hp_first (by decide))
  have e7 : bestAt (115 :: t) 7 = bestAt (115 :: t) 6 := best_skip (hp_first (by decide))
  have e8 : bestAt (115 :: t) 8 = bestAt (115 :: t) 7 := best_skip (hp_first (by decide))
  have e9 : bestAt (115 :: t) 9 = bestAt (115 :: t) 8 := best_skip (hp_first (by decide))
  have e10 : bestAt (115 :: t) 10 = bestAt (115 :: t) 9 := best_skip (hp_first (by decide))
  have e11 : bestAt (115 :: t) 11 = bestAt (115 :: t) 10 := best_skip (hp_first (by decide))
  have e12 : bestAt (115 :: t) 12 = bestAt (115 :: t) 11 := best_skip (hp_first (by decide))
  have e13 : bestAt (115 :: t) 13 = bestAt (115 :: t) 12 := best_skip (hp_first (by decide))
  have e14 : bestAt (115 :: t) 14 = bestAt (115 :: t) 13 := best_skip (hp_first (by decide))
  have e15 : bestAt (115 :: t) 15 = bestAt (115 :: t) 14 := best_skip (hp_first (by decide))
  have e16 : bestAt (115 :: t) 16 = if true && longer (bestAt (115 :: t) 15) 15 then some 15 else bestAt (115 :: t) 15 := by show (if Lib.hasPrefix (115 :: t) (LW.getD 15 []) && longer (bestAt (115 :: t) 15) 15 then some 15 else bestAt (115 :: t) 15) = _; rw [show LW.getD 15 [] = [115] from rfl, h15]
  have e17 : bestAt (115 :: t) 17 = if q16 && longer (bestAt (115 :: t) 16) 16 then some 16 else bestAt (115 :: t) 16 := by show (if Lib.hasPrefix (115 :: t) (LW.getD 16 []) && longer (bestAt (115 :: t) 16) 16 then some 16 else bestAt (115 :: t) 16) = _; rw [show LW.getD 16 [] = [115, 117, 98, 115, 116, 105, 116, 117, 116, 101] from rfl, h16]
  have e18 : bestAt (115 :: t) 18 = bestAt (115 :: t) 17 := best_skip (hp_first (by decide))
  have e19 : bestAt (115 :: t) 19 = bestAt (115 :: t) 18 := best_skip (hp_first (by decide))
  have e20 : bestAt (115 :: t) 20 = bestAt (115 :: t) 19 := best_skip (hp_first (by decide))
  have e21 : bestAt (115 :: t) 21 = bestAt (115 :: t) 20 := best_skip (hp_first (by decide))
  have e22 : bestAt (115 :: t) 22 = bestAt (115 :: t) 21 := best_skip (hp_first (by decide))
  have e23 : bestAt (115 :: t) 23 = bestAt (115 :: t) 22 := best_skip (hp_first (by decide))
  have e24 : bestAt (115 :: t) 24 = bestAt (115 :: t) 23 := best_skip (hp_first (by decide))
  have e25 : bestAt (115 :: t) 25 = bestAt (115 :: t) 24 := best_skip (hp_first (by decide))
  have e26 : bestAt (115 :: t) 26 = bestAt (115 :: t) 25 := best_skip (hp_first (by decide))
  have e27 : bestAt (115 :: t) 27 = bestAt (115 :: t) 26 := best_skip (hp_first (by decide))
  have e28 : bestAt (115 :: t) 28 = bestAt (115 :: t) 27 := best_skip (hp_first (by decide))
  have e29 : bestAt (115 :: t) 29 = bestAt (115 :: t) 28 := best_skip (hp_first (by decide))
  have e30 : bestAt (115 :: t) 30 = bestAt (115 :: t) 29 := best_skip (hp_first (by decide))
  have e31 : bestAt (115 :: t) 31 = bestAt (115 :: t) 30 := best_skip (hp_first (by decide))
  rw [e31, e30, e29, e28, e27, e26, e25, e24, e23, e22, e21, e20, e19, e18]
  simp only [wordIn, h15, h16]
  simp only [e17, e16, e15, e14, e13, e12, e11, e10, e9, e8, e7, e6, e5, e4, e3, e2, e1, e0]
  cases q16 <;> rfl
theorem best_116 (t : Bs) : wordIn (116 :: t) (wordsAt 116) = (bestAt (116 :: t) 31).map (fun j => (LW.getD j [], SW.getD j [])) := by
  rw [show wordsAt 116 = [([116], [116])] from rfl]
  have h4 : Lib.hasPrefix (116 :: t) [116] = true := by rw [hp_cons, hp_nil]; rfl
  have e0 : bestAt (116 :: t) 0 = none := rfl
  have e1 : bestAt (116 :: t) 1 = bestAt (116 :: t) 0 := best_skip (hp_first (by decide))
  have e2 : bestAt (116 :: t) 2 = bestAt (116 :: t) 1 := best_skip (hp_first (by decide))
  have e3 : bestAt (116 :: t) 3 = bestAt (116 :: t) 2 := best_skip (hp_first (by decide))
  have e4 : bestAt (116 :: t) 4 = bestAt (116 :: t) 3 := best_skip (hp_first (by decide))
  have e5 : bestAt (116 :: t) 5 = if true && longer (bestAt (116 :: t) 4) 4 then some 4 else bestAt (116 :: t) 4 := by show (if Lib.hasPrefix (116 :: t) (LW.getD 4 []) && longer (bestAt (116 :: t) 4) 4 then some 4 else bestAt (116 :: t) 4) = _; rw [show LW.getD 4 [] = [116] from rfl, h4]
  have e6 : bestAt (116 :: t) 6 = bestAt (116 :: t) 5 := best_skip (hp_first (by decide))
  have e7 : bestAt (116 :: t) 7 = bestAt (116 :: t) 6 := best_skip (hp_first (by decide))
  have e8 : bestAt (116 :: t) 8 = bestAt (116 :: t) 7 := best_skip (hp_first (by decide))
  have e9 : bestAt (116 :: t) 9 = bestAt (116 :: t) 8 := best_skip (hp_first (by decide))
  have e10 : bestAt (116 :: t) 10 = bestAt (116 :: t) 9 := best_skip (hp_first (by decide))
  have e11 : bestAt (116 :: t) 11 = bestAt (116 :: t) 10 := best_skip (hp_first (by decide))
  have e12 : bestAt (116 :: t) 12 = bestAt (116 :: t) 11 := best_skip (hp_first (by decide))
  have e13 : bestAt (116 :: t) 13 = bestAt (116 :: t) 12 := best_skip (hp_first (by decide))
  have e14 : bestAt (116 :: t) 14 = bestAt (116 :: t) 13 := best_skip (hp_first (by decide))
  have e15 : bestAt (116 :: t) 15 = bestAt (116 :: t) 14 := best_skip (hp_first (by decide))
  have e16 : bestAt (116 :: t) 16 = bestAt (116 :: t) 15 := best_skip (hp_first (by decide))
  have e17 : bestAt (116 :: t) 17 = bestAt (116 :: t) 16 := best_skip (hp_first (by decide))
  have e18 : bestAt (116 :: t) 18 = bestAt (116 :: t) 17 := best_skip (hp_first (by decide))
  have e19 : bestAt (116 :: t) 19 = bestAt (116 :: t) 18 := best_skip (hp_first (by decide))
  have e20 : bestAt (116 :: t) 20 = bestAt (116 :: t) 19 := best_skip (hp_first (by decide))
  have e21 : bestAt (116 :: t) 21 = bestAt (116 :: t) 20 := best_skip (hp_first (by decide))
  have e22 : bestAt (116 :: t) 22 = bestAt (116 :: t) 21 := best_skip (hp_first (by decide))
  have e23 : bestAt (116 :: t) 23 = bestAt (116 :: t) 22 := best_skip (hp_first (by decide))
  have e24 : bestAt (116 :: t) 24 = bestAt (116 :: t) 23 := best_skip (hp_first (by decide))
  have e25 : bestAt (116 :: t) 25 = bestAt (116 :: t) 24 := best_skip (hp_first (by decide))
  have e26 : bestAt (116 :: t) 26 = bestAt (116 :: t) 25 := best_skip (hp_first (by decide))
  have e27 : bestAt (116 :: t) 27 = bestAt (116 :: t) 26 := best_skip (hp_first (by decide))
  have e28 : bestAt (116 :: t) 28 = bestAt (116 :: t) 27 := best_skip (hp_first (by decide))
  have e29 : bestAt (116 :: t) 29 = bestAt (116 :: t) 28 := best_skip (hp_first (by decide))
  have e30 : bestAt (116 :: t) 30 = bestAt (116 :: t) 29 := best_skip (hp_first (by decide))
  have e31 : bestAt (116 :: t) 31 = bestAt (116 :: t) 30 := best_skip (hp_first (by decide))
  rw [e31, e30, e29, e28, e27, e26, e25, e24, e23, e22, e21, e20, e19, e18, e17, e16, e15, e14, e13, e12, e11, e10, e9, e8, e7, e6]
  simp only [wordIn, h4]
  simp only [e5, e4, e3, e2, e1, e0]
  rfl
theorem best_117 (t : Bs) : wordIn (117 :: t) (wordsAt 117) = (bestAt (117 :: t) 31).map (fun j => (LW.getD j [], SW.getD j [])) := by
  rw [show wordsAt 117 = [([117, 110, 100, 111], [117]), ([117], [117])] from rfl]
  have h23 : Lib.hasPrefix (117 :: t) [117] = true := by rw [hp_cons, hp_nil]; rfl
  obtain ⟨q24, h24⟩ : ∃ q, Lib.hasPrefix (117 :: t) [117, 110, 100, 111] = q := ⟨_, rfl⟩
  have e0 : bestAt (117 :: t) 0 = none := rfl
  have e1 : bestAt (117 :: t) 1 = bestAt (117 :: t) 0 := best_skip (hp_first (by decide))
  have e2 : bestAt (117 :: t) 2 = bestAt (117 :: t) 1 := best_skip (hp_first (by decide))
  have e3 : bestAt (117 :: t) 3 = bestAt (117 :: t) 2 := best_skip (hp_first (by decide))
  have e4 : bestAt (117 :: t) 4 = bestAt (117 :: t) 3 := best_skip (hp_first (by decide))
  have e5 : bestAt (117 :: t) 5 = bestAt (117 :: t) 4 := best_skip (hp_first (by decide))
  have e6 : bestAt (117 :: t) 6 = bestAt (117 :: t) 5 := best_skip (hp_first (by decide))
  have e7 : bestAt (117 :: t) 7 = bestAt (117 :: t) 6 := best_skip (hp_first (by decide))
  have e8 : bestAt (117 :: t) 8 = bestAt (117 :: t) 7 := best_skip (hp_first (by decide))
  have e9 : bestAt (117 :: t) 9 = bestAt (117 :: t) 8 := best_skip (hp_first (by decide))
  have e10 : bestAt (117 :: t) 10 = bestAt (117 :: t) 9 := best_skip (hp_first (by decide))
  have e11 : bestAt (117 :: t) 11 = bestAt (117 :: t) 10 := best_skip (hp_first (by decide))
  have e12 : bestAt (117 :: t) 12 = bestAt (117 :: t) 11 := best_skip (hp_first (by decide))
  have e13 : bestAt (117 :: t) 13 = bestAt (117 :: t) 12 := best_skip (hp_first (by decide))
  have e14 : bestAt (117 :: t) 14 = bestAt (117 :: t) 13 := best_skip (hp_first (by decide))
  have e15 : bestAt (117 :: t) 15 = bestAt (117 :: t) 14 := best_skip (hp_first (by decide))
  have e16 : bestAt (117 :: t) 16 = bestAt (117 :: t) 15 := best_skip (hp_first (by decide))
  have e17 : bestAt (117 :: t) 17 = bestAt (117 :: t) 16 := best_skip (hp_first (by decide))
  have e18 : bestAt (117 :: t) 18 = bestAt (117 :: t) 17 := best_skip (hp_first (by decide))
  have e19 : bestAt (117 :: t) 19 = bestAt (117 :: t) 18 := best_skip (hp_first (by decide))
  have e20 : bestAt (117 :: t) 20 = bestAt (117 :: t) 19 := best_skip (hp_first (by decide))
  have e21 : bestAt (117 :: t) 21 = bestAt (117 :: t) 20 := best_skip (hp_first (by decide))
  have e22 : bestAt (117 :: t) 22 = bestAt (117 :: t) 21 := best_skip (hp_first (by decide))
  have e23 : bestAt (117 :: t) 23 = bestAt (117 :: t) 22 := best_skip (hp_first (by decide))
  have e24 : bestAt (117 :: t) 24 = if true && longer (bestAt (117 :: t) 23) 23 then some 23 else bestAt (117 :: t) 23 := by show (if Lib.hasPrefix (117 :: t) (LW.getD 23 []) && longer (bestAt (117 :: t) 23) 23 then some 23 else bestAt (117 :: t) 23) = _; rw [show LW.getD 23 [] = [117] from rfl, h23]
  have e25 : bestAt (117 :: t) 25 = if q24 && longer (bestAt (117 :: t) 24) 24 then some 24 else bestAt (117 :: t) 24 := by show (if Lib.hasPrefix (117 :: t) (LW.getD 24 []) && longer (bestAt (117 :: t) 24) 24 then some 24 else bestAt (117 :: t) 24) = _; rw [show LW.getD 24 [] = [117, 110, 100, 111] from rfl, h24]
  have e26 : bestAt (117 :: t) 26 = bestAt (117 :: t) 25 := best_skip (hp_first (by decide))
  have e27 : bestAt (117 :: t) 27 = bestAt (117 :: t) 26 := best_skip (hp_first (by decide))
  have e28 : bestAt (117 :: t) 28 = bestAt (117 :: t) 27 := best_skip (hp_first (by decide))
  have e29 : bestAt (117 :: t) 29 = bestAt (117 :: t) 28 := best_skip (hp_first (by decide))
  have e30 : bestAt (117 :: t) 30 = bestAt (117 :: t) 29 := best_skip (hp_first (by decide))
  have e31 : bestAt (117 :: t) 31 = bestAt (117 :: t) 30 := best_skip (hp_first (by decide))
  rw [e31, e30, e29, e28, e27, e26]
  simp only [wordIn, h23, h24]
  simp only [e25, e24, e23, e22, e21, e20, e19, e18, e17, e16, e15, e14, e13, e12, e11, e10, e9, e8, e7, e6, e5, e4, e3, e2, e1, e0]
  cases q24 <;> rfl
theorem best_118 (t : Bs) : wordIn (118 :: t) (wordsAt 118) = (bestAt (118 :: t) 31).map (fun j => (LW.getD j [], SW.getD j [])) := by
  rw [show wordsAt 118 = [([118, 103, 108, 111, 98, 97, 108], [118]), ([118], [118])] from rfl]
  have h19 : Lib.hasPrefix (118 :: t) [118] = true := by rw [hp_cons, hp_nil]; rfl
  obtain ⟨q20, h20⟩ : ∃ q, Lib.hasPrefix (118 :: t) [118, 103, 108, 111, 98, 97, 108] = q := ⟨_, rfl⟩
  have e0 : bestAt (118 :: t) 0 = none := rfl
  have e1 : bestAt (118 :: t) 1 = bestAt (118 :: t) 0 := best_skip (hp_first (by decide))
  have e2 : bestAt (118 :: t) 2 = bestAt (118 :: t) 1 := best_skip (hp_first (by decide))
  have e3 : bestAt (118 :: t) 3 = bestAt (118 :: t) 2 := best_skip (hp_first (by decide))
  have e4 : bestAt (118 :: t) 4 = bestAt (118 :: t) 3 := best_skip (hp_first (by decide))
  have e5 : bestAt (118 :: t) 5 = bestAt (118 :: t) 4 := best_skip (hp_first (by decide))
  have e6 : bestAt (118 :: t) 6 = bestAt (118 :: t) 5 := best_skip (hp_first (by decide))
  have e7 : bestAt (118 :: t) 7 = bestAt (118 :: t) 6 := best_skip (hp_first (by decide))
  have e8 : bestAt (118 :: t) 8 = bestAt (118 :: t) 7 := best_skip (hp_first (by decide))
  have e9 : bestAt (118 :: t) 9 = bestAt (118 :: t) 8 := best_skip (hp_first (by decide))
  have e10 : bestAt (118 :: t) 10 = bestAt (118 :: t) 9 := best_skip (hp_first (by decide))
  have e11 : bestAt (118 :: t) 11 = bestAt (118 :: t) 10 := best_skip (hp_first (by decide))
  have e12 : bestAt (118 :: t) 12 = bestAt (118 :: t) 11 := best_skip (hp_first (by decide))
  have e13 : bestAt (118 :: t) 13 = bestAt (118 :: t) 12 := best_skip (hp_first (by decide))
  have e14 : bestAt (118 :: t) 14 = bestAt (118 :: t) 13 := best_skip (hp_first (by decide))
  have e15 : bestAt (118 :: t) 15 = bestAt (118 :: t) 14 := best_skip (hp_first (by decide))
  have e16 : bestAt (118 :: t) 16 = bestAt (118 :: t) 15 := best_skip (hp_first (by decide))
  have e17 : bestAt (118 :: t) 17 = bestAt (118 :: t) 16 := best_skip (hp_first (by decide))
  have e18 : bestAt (118 :: t) 18 = bestAt (118 :: t) 17 := best_skip (hp_first (by decide))
  have e19 : bestAt (118 :: t) 19 = bestAt (118 :: t) 18 := best_skip (hp_first (by decide))
  have e20 : bestAt (118 :: t) 20 = if true && longer (bestAt (118 :: t) 19) 19 then some 19 else bestAt (118 :: t) 19 := by show (if Lib.hasPrefix (118 :: t) (LW.getD 19 []) && longer (bestAt (118 :: t) 19) 19 then some 19 else bestAt (118 :: t) 19) = _; rw [show LW.getD 19 [] = [118] from rfl, h19]
  have e21 : bestAt (118 :: t) 21 = if q20 && longer (bestAt (118 :: t) 20) 20 then some 20 else bestAt (118 :: t) 20 := by show (if Lib.hasPrefix (118 :: t) (LW.getD 20 []) && longer (bestAt (118 :: t) 20) 20 then some 20 else bestAt (118 :: t) 20) = _; rw [show LW.getD 20 [] = [118, 103, 108, 111, 98, 97, 108] from rfl, h20]
  have e22 : bestAt (118 :: t) 22 = bestAt (118 :: t) 21 := best_skip (hp_first (by decide))
  have e23 : bestAt (118 :: t) 23 = bestAt (118 :: t) 22 := best_skip (hp_first (by decide))
  have e24 : bestAt (118 :: t) 24 = bestAt (118 :: t) 23 := best_skip (hp_first (by decide))
  have e25 : bestAt (118 :: t) 25 = bestAt (118 :: t) 24 := best_skip (hp_first (by decide))
  have e26 : bestAt (118 :: t) 26 = bestAt (118 :: t) 25 := best_skip (hp_first (by decide))
  have e27 : bestAt (118 :: t) 27 = bestAt (118 :: t) 26 := best_skip (hp_first (by decide))
  have e28 : bestAt (118 :: t) 28 = bestAt (118 :: t) 27 := best_skip (hp_first (by decide))
  have e29 : bestAt (118 :: t) 29 = bestAt (118 :: t) 28 := best_skip (hp_first (by decide))
  have e30 : bestAt (118 :: t) 30 = bestAt (118 :: t) 29 := best_skip (hp_first (by decide))
  have e31 : bestAt (118 :: t) 31 = bestAt (118 :: t) 30 := best_skip (hp_first (by decide))
  rw [e31, e30, e29, e28, e27, e26, e25, e24, e23, e22]
  simp only [wordIn, h19, h20]
  simp only [e21, e20, e19, e18, e17, e16, e15, e14, e13, e12, e11, e10, e9, e8, e7, e6, e5, e4, e3, e2, e1, e0]
  cases q20 <;> rfl
theorem best_121 (t : Bs) : wordIn (121 :: t) (wordsAt 121) = (bestAt (121 :: t) 31).map (fun j => (LW.getD j [], SW.getD j [])) := by
  rw [show wordsAt 121 = [([121, 97, 110, 107], [121]), ([121], [121])] from rfl]
  have h9 : Lib.hasPrefix (121 :: t) [121] = true := by rw [hp_cons, hp_nil]; rfl
  obtain ⟨q10, h10⟩ : ∃ q, Lib.hasPrefix (121 :: t) [121, 97, 110, 107] = q := ⟨_, rfl⟩
  have e0 : bestAt (121 :: t) 0 = none := rfl
  have e1 : bestAt (121 :: t) 1 = bestAt (121 :: t) 0 := best_skip (hp_first (by decide))
  have e2 : bestAt (121 :: t) 2 = bestAt (121 :: t) 1 := best_skip (hp_first (by decide))
  have e3 : bestAt (121 :: t) 3 = bestAt (121 :: t) 2 := best_skip (hp_first (by decide))
  have e4 : bestAt (121 :: t) 4 = bestAt (121 :: t) 3 := best_skip (hp_first (by decide))
  have e5 : bestAt (121 :: t) 5 = bestAt (121 :: t) 4 := best_skip (hp_first (by decide))
  have e6 : bestAt (121 :: t) 6 = bestAt (121 :: t) 5 := best_skip (hp_first (by decide))
  have e7 : bestAt (121 :: t) 7 = bestAt (121 :: t) 6 := best_skip (hp_first (by decide))
  have e8 : bestAt (121 :: t) 8 = bestAt (121 :: t) 7 := best_skip (hp_first (by decide))
  have e9 : bestAt (121 :: t) 9 = bestAt (121 :: t) 8 := best_skip (hp_first (by decide))
  have e10 : bestAt (121 :: t) 10 = if true && longer (bestAt (121 :: t) 9) 9 then some 9 else bestAt (121 :: t) 9 := by show (if Lib.hasPrefix (121 :: t) (LW.getD 9 []) && longer (bestAt (121 :: t) 9) 9 then some 9 else bestAt (121 :: t) 9) = _; rw [show LW.getD 9 [] = [121] from rfl, h9]
  have e11 : bestAt (121 :: t) 11 = if q10 && longer (bestAt (121 :: t) 10) 10 then some 10 else bestAt (121 :: t) 10 := by show (if Lib.hasPrefix (121 :: t) (LW.getD 10 []) && longer (bestAt (121 :: t) 10) 10 then some 10 else bestAt (121 :: t) 10) = _; rw [show LW.getD 10 [] = [121, 97, 110, 107] from rfl, h10]
  have e12 : bestAt (121 :: t) 12 = bestAt (121 :: t) 11 := best_skip (hp_first (by decide))
  have e13 : bestAt (121 :: t) 13 = bestAt (121 :: t) 12 := best_skip (hp_first (by decide))
  have e14 : bestAt (121 :: t) 14 = bestAt (121 :: t) 13 := best_skip (hp_first (by decide))
  have e15 : bestAt (121 :: t) 15 = bestAt (121 :: t) 14 := best_skip (hp_first (by decide))
  have e16 : bestAt (121 :: t) 16 = bestAt (121 :: t) 15 := best_skip (hp_first (by decide))
  have e17 : bestAt (121 :: t) 17 = bestAt (121 :: t) 16 := best_skip (hp_first (by decide))
  have e18 : bestAt (121 :: t) 18 = bestAt (121 :: t) 17 := best_skip (hp_first (by decide))
  have e19 : bestAt (121 :: t) 19 = bestAt (121 :: t) 18 := best_skip (hp_first (by decide))
  have e20 : bestAt (121 :: t) 20 = bestAt (121 :: t) 19 := best_skip (hp_first (by decide))
  have e21 : bestAt (121 :: t) 21 = bestAt (121 :: t) 20 := best_skip (hp_first (by decide))
  have e22 : bestAt (121 :: t) 22 = bestAt (121 :: t) 21 := best_skip (hp_first (by decide))
  have e23 : bestAt (121 :: t) 23 = bestAt (121 :: t) 22 := best_skip (hp_first (by decide))
  have e24 : bestAt (121 :: t) 24 = bestAt (121 :: t) 23 := best_skip (hp_first (by decide))
  have e25 : bestAt (121 :: t) 25 = bestAt (121 :: t) 24 := best_skip (hp_first (by decide))
  have e26 : bestAt (121 :: t) 26 = bestAt (121 :: t) 25 := best_skip (hp_first (by decide))
  have e27 : bestAt (121 :: t) 27 = bestAt (121 :: t) 26 := best_skip (hp_first (by decide))
  have e28 : bestAt (121 :: t) 28 = bestAt (121 :: t) 27 := best_skip (hp_first (by decide))
  have e29 : bestAt (121 :: t) 29 = bestAt (121 :: t) 28 := best_skip (hp_first (by decide))
  have e30 : bestAt (121 :: t) 30 = bestAt (121 :: t) 29 := best_skip (hp_first (by decide))
  have e31 : bestAt (121 :: t) 31 = bestAt (121 :: t) 30 := best_skip (hp_first (by decide))
  rw [e31, e30, e29, e28, e27, e26, e25, e24, e23, e22, e21, e20, e19, e18, e17, e16, e15, e14, e13, e12]
  simp only [wordIn, h9, h10]
  simp only [e11, e10, e9, e8, e7, e6, e5, e4, e3, e2, e1, e0]
  cases q10 <;> rfl
theorem best_other {x : UInt8} (t : Bs) (hx : ∀ y ∈ ([99, 100, 101, 103, 106, 107, 108, 109, 110, 112, 114, 115, 116, 117, 118, 121] : Bs), x ≠ y) : wordIn (x :: t) (wordsAt x) = (bestAt (x :: t) 31).map (fun j => (LW.getD j [], SW.getD j [])) := by
  have hw : wordsAt x = [] := by
    unfold wordsAt tbl
    simp only [findW]
    simp [hx 99 (by simp), hx 100 (by simp), hx 101 (by simp), hx 103 (by simp), hx 106 (by simp), hx 107 (by simp), hx 108 (by simp), hx 109 (by simp), hx 110 (by simp), hx 112 (by simp), hx 114 (by simp), hx 115 (by simp), hx 116 (by simp), hx 117 (by simp), hx 118 (by simp), hx 121 (by simp)]
  have hb : ∀ i, i ≤ 31 → bestAt (x :: t) i = none := by
    intro i
    induction i with
    | zero => intro _; rfl
    | succ i ih =>
      intro hi
      rw [best_skip, ih (by omega)]
      have hall : ∀ j : Fin 31, LW.getD j.val [] ≠ [] ∧ (LW.getD j.val []).headD 0 ∈ ([99, 100, 101, 103, 106, 107, 108, 109, 110, 112, 114, 115, 116, 117, 118, 121] : Bs) := by decide
      obtain ⟨h1, h2⟩ := hall ⟨i, by omega⟩
      simp only at h1 h2
      rcases hw : LW.getD i [] with _ | ⟨y, p⟩
      · exact absurd hw h1
      · rw [hw] at h2
        exact hp_first (hx y h2)
  rw [hw, hb 31 (Nat.le_refl _)]
  rfl
theorem best_law (x : UInt8) (t : Bs) : wordIn (x :: t) (wordsAt x) = (bestAt (x :: t) 31).map (fun j => (LW.getD j [], SW.getD j [])) := by
  by_cases h99 : x = 99
  · subst h99; exact best_99 t
  by_cases h100 : x = 100
  · subst h100; exact best_100 t
  by_cases h101 : x = 101
  · subst h101; exact best_101 t
  by_cases h103 : x = 103
  · subst h103; exact best_103 t
  by_cases h106 : x = 106
  · subst h106; exact best_106 t
  by_cases h107 : x = 107
  · subst h107; exact best_107 t
  by_cases h108 : x = 108
  · subst h108; exact best_108 t
  by_cases h109 : x = 109
  · subst h109; exact best_109 t
  by_cases h110 : x = 110
  · subst h110; exact best_110 t
  by_cases h112 : x = 112
  · subst h112; exact best_112 t
  by_cases h114 : x = 114
  · subst h114; exact best_114 t
  by_cases h115 : x = 115
  · subst h115; exact best_115 t
  by_cases h116 : x = 116
  · subst h116; exact best_116 t
  by_cases h117 : x = 117
  · subst h117; exact best_117 t
  by_cases h118 : x = 118
  · subst h118; exact best_118 t
  by_cases h121 : x = 121
  · subst h121; exact best_121 t
  refine best_other t ?_
  intro y hy
  simp only [List.mem_cons, List.not_mem_nil, or_false] at hy
  rcases hy with rfl | rfl | rfl | rfl | rfl | rfl | rfl | rfl | rfl | rfl | rfl | rfl | rfl | rfl | rfl | rfl
  · exact h99
  · exact h100
  · exact h101
  · exact h103
  · exact h106
  · exact h107
  · exact h108
  · exact h109
  · exact h110
  · exact h112
  · exact h114
  · exact h115
  · exact h116
  · exact h117
  · exact h118
  · exact h121
end Go.Proofs.YthajagmccaaanaaGreatDoor
