/- emendatorref01.Is at the classes that the reference's commands ask for. -/
import Derived.Test.YthajagmccaaanaaGreatDoorKind
namespace Go.Proofs.YthajagmccaaanaaGreatDoor
open Go.RowKit

set_option maxRecDepth 100000 in
set_option maxHeartbeats 1000000 in
theorem ris_d (c : Int) (h0 : 0 ≤ c) (hc : c ≤ 255) (w : World) : Calls Tryz.prog 41 #[.int .u8 100, .int .u8 c] w fun e w' => e = .returned (.bool (dig c)) ∧ w' = w := by
  by_cases h1 : 48 ≤ c
  · by_cases h2 : c ≤ 57
    all_goals
      go_enter Tryz.func41, Tryz.ntmps41
      go_wp2
      go_ret
      first | exact ⟨ret_bool (a := true) (decide_eq_true (by omega)).symm, rfl⟩ | exact ⟨ret_bool (a := false) (decide_eq_false (by omega)).symm, rfl⟩
  · go_enter Tryz.func41, Tryz.ntmps41
    go_wp2
    go_ret
    first | exact ⟨ret_bool (a := true) (decide_eq_true (by omega)).symm, rfl⟩ | exact ⟨ret_bool (a := false) (decide_eq_false (by omega)).symm, rfl⟩

set_option maxRecDepth 100000 in
set_option maxHeartbeats 1000000 in
theorem ris_a (c : Int) (h0 : 0 ≤ c) (hc : c ≤ 255) (w : World) : Calls Tryz.prog 41 #[.int .u8 97, .int .u8 c] w fun e w' => e = .returned (.bool (ltr c)) ∧ w' = w := by
  by_cases h1 : 97 ≤ c
  · by_cases h2 : c ≤ 122
    · go_enter Tryz.func41, Tryz.ntmps41
      go_wp2
      go_ret
      first | exact ⟨ret_bool (a := true) (decide_eq_true (by omega)).symm, rfl⟩ | exact ⟨ret_bool (a := false) (decide_eq_false (by omega)).symm, rfl⟩
    · have h3 : 65 ≤ c := by omega
      have h4 : ¬ c ≤ 90 := by omega
      go_enter Tryz.func41, Tryz.ntmps41
      go_wp2
      go_ret
      first | exact ⟨ret_bool (a := true) (decide_eq_true (by omega)).symm, rfl⟩ | exact ⟨ret_bool (a := false) (decide_eq_false (by omega)).symm, rfl⟩
  · by_cases h3 : 65 ≤ c
    · by_cases h4 : c ≤ 90
      all_goals
        go_enter Tryz.func41, Tryz.ntmps41
        go_wp2
        go_ret
        first | exact ⟨ret_bool (a := true) (decide_eq_true (by omega)).symm, rfl⟩ | exact ⟨ret_bool (a := false) (decide_eq_false (by omega)).symm, rfl⟩
    · go_enter Tryz.func41, Tryz.ntmps41
      go_wp2
      go_ret
      first | exact ⟨ret_bool (a := true) (decide_eq_true (by omega)).symm, rfl⟩ | exact ⟨ret_bool (a := false) (decide_eq_false (by omega)).symm, rfl⟩

set_option maxRecDepth 100000 in
set_option maxHeartbeats 1000000 in
theorem ris_s (c : Int) (h0 : 0 ≤ c) (hc : c ≤ 255) (w : World) : Calls Tryz.prog 41 #[.int .u8 115, .int .u8 c] w fun e w' => e = .returned (.bool (blk c)) ∧ w' = w := by
  by_cases h1 : c = 32
  · subst h1
    go_enter Tryz.func41, Tryz.ntmps41
    go_wp2
    go_ret
    first | exact ⟨ret_bool (a := true) (decide_eq_true (by omega)).symm, rfl⟩ | exact ⟨ret_bool (a := false) (decide_eq_false (by omega)).symm, rfl⟩
  · have e1 : (c == 32) = false := by simpa using h1
    by_cases h2 : c = 9
    · subst h2
      go_enter Tryz.func41, Tryz.ntmps41
      go_wp2
      go_ret
      first | exact ⟨ret_bool (a := true) (decide_eq_true (by omega)).symm, rfl⟩ | exact ⟨ret_bool (a := false) (decide_eq_false (by omega)).symm, rfl⟩
    · have e2 : (c == 9) = false := by simpa using h2
      go_enter Tryz.func41, Tryz.ntmps41
      go_wp2
      go_ret
      first | exact ⟨ret_bool (a := true) (decide_eq_true (by omega)).symm, rfl⟩ | exact ⟨ret_bool (a := false) (decide_eq_false (by omega)).symm, rfl⟩
end Go.Proofs.YthajagmccaaanaaGreatDoor
