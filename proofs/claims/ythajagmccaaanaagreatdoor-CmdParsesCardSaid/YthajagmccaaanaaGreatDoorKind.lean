/- kind.Is at the classes that the commands ask for. -/
import Derived.Test.YthajagmccaaanaaGreatDoorProg
import Derived.Test.YthajagmccaaanaaGreatDoorBase
namespace Go.Proofs.YthajagmccaaanaaGreatDoor
open Go.RowKit

def dig (c : Int) : Bool := decide (48 ≤ c ∧ c ≤ 57)
def low (c : Int) : Bool := decide (97 ≤ c ∧ c ≤ 122)
def upp (c : Int) : Bool := decide (65 ≤ c ∧ c ≤ 90)
def ltr (c : Int) : Bool := decide (97 ≤ c ∧ c ≤ 122 ∨ 65 ≤ c ∧ c ≤ 90)
def blk (c : Int) : Bool := decide (c = 32 ∨ c = 9)

set_option maxRecDepth 100000 in
set_option maxHeartbeats 400000 in
theorem is_d (c : Int) (w : World) : Calls Tryz.prog 60 #[.int .u8 100, .int .u8 c] w fun e w' => e = .returned (.bool (dig c)) ∧ w = w' := by
  have hn := fun w => run_neq_func_nil (P := Tryz.prog) w Tryz.underlying109 (.func 95) #[] #[]
  by_cases h1 : 48 ≤ c
  · by_cases h2 : c ≤ 57
    all_goals
      go_enter Tryz.func60, Tryz.ntmps60
      go_wp2
      go_ret
      first | exact ⟨ret_bool (a := true) (decide_eq_true (by omega)).symm, rfl⟩ | exact ⟨ret_bool (a := false) (decide_eq_false (by omega)).symm, rfl⟩
  · go_enter Tryz.func60, Tryz.ntmps60
    go_wp2
    go_ret
    first | exact ⟨ret_bool (a := true) (decide_eq_true (by omega)).symm, rfl⟩ | exact ⟨ret_bool (a := false) (decide_eq_false (by omega)).symm, rfl⟩

set_option maxRecDepth 100000 in
set_option maxHeartbeats 400000 in
theorem is_a (c : Int) (w : World) : Calls Tryz.prog 60 #[.int .u8 97, .int .u8 c] w fun e w' => e = .returned (.bool (ltr c)) ∧ w = w' := by
  have hn := fun w => run_neq_func_nil (P := Tryz.prog) w Tryz.underlying109 (.func 100) #[] #[]
  by_cases h1 : 97 ≤ c
  · by_cases h2 : c ≤ 122
    · go_enter Tryz.func60, Tryz.ntmps60
      go_wp2
      go_ret
      first | exact ⟨ret_bool (a := true) (decide_eq_true (by omega)).symm, rfl⟩ | exact ⟨ret_bool (a := false) (decide_eq_false (by omega)).symm, rfl⟩
    · have h3 : 65 ≤ c := by omega
      have h4 : ¬ c ≤ 90 := by omega
      go_enter Tryz.func60, Tryz.ntmps60
      go_wp2
      go_ret
      first | exact ⟨ret_bool (a := true) (decide_eq_true (by omega)).symm, rfl⟩ | exact ⟨ret_bool (a := false) (decide_eq_false (by omega)).symm, rfl⟩
  · by_cases h3 : 65 ≤ c
    · by_cases h4 : c ≤ 90
      all_goals
        go_enter Tryz.func60, Tryz.ntmps60
        go_wp2
        go_ret
        first | exact ⟨ret_bool (a := true) (decide_eq_true (by omega)).symm, rfl⟩ | exact ⟨ret_bool (a := false) (decide_eq_false (by omega)).symm, rfl⟩
    · go_enter Tryz.func60, Tryz.ntmps60
      go_wp2
      go_ret
      first | exact ⟨ret_bool (a := true) (decide_eq_true (by omega)).symm, rfl⟩ | exact ⟨ret_bool (a := false) (decide_eq_false (by omega)).symm, rfl⟩

set_option maxRecDepth 100000 in
set_option maxHeartbeats 400000 in
theorem is_s (c : Int) (w : World) : Calls Tryz.prog 60 #[.int .u8 115, .int .u8 c] w fun e w' => e = .returned (.bool (blk c)) ∧ w = w' := by
  have hn := fun w => run_neq_func_nil (P := Tryz.prog) w Tryz.underlying109 (.func 102) #[] #[]
  by_cases h1 : c = 32
  · subst h1
    go_enter Tryz.func60, Tryz.ntmps60
    go_wp2
    go_ret
    first | exact ⟨ret_bool (a := true) (decide_eq_true (by omega)).symm, rfl⟩ | exact ⟨ret_bool (a := false) (decide_eq_false (by omega)).symm, rfl⟩
  · have e1 : (c == 32) = false := by simpa using h1
    by_cases h2 : c = 9
    · subst h2
      go_enter Tryz.func60, Tryz.ntmps60
      go_wp2
      go_ret
      first | exact ⟨ret_bool (a := true) (decide_eq_true (by omega)).symm, rfl⟩ | exact ⟨ret_bool (a := false) (decide_eq_false (by omega)).symm, rfl⟩
    · have e2 : (c == 9) = false := by simpa using h2
      go_enter Tryz.func60, Tryz.ntmps60
      go_wp2
      go_ret
      first | exact ⟨ret_bool (a := true) (decide_eq_true (by omega)).symm, rfl⟩ | exact ⟨ret_bool (a := false) (decide_eq_false (by omega)).symm, rfl⟩
end Go.Proofs.YthajagmccaaanaaGreatDoor
