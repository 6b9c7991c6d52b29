/- cmd.reader: more, part 2. -/
import Derived.Test.YthajagmccaaanaaGreatDoorMoreA
namespace Go.Proofs.YthajagmccaaanaaGreatDoor
open Go.RowKit

set_option maxRecDepth 100000 in
set_option maxHeartbeats 4000000 in
theorem more_12 (b : Nat) (c : Cm) (l : Bs) (w : World) (h : RD b c l w) (hl : l.length ≤ 1000) (_hdv : c.dv = .slice none 0 0) (hn : c.name = [109]) :
    Calls Tryz.prog 14 #[.pointer (some ⟨b, 0, none⟩)] w (MorePost b (moreL c l) w) := by
  have HQ := Lib.hid (show (match rangeL l with | none => .error 141 | some (ads, r) => if ads.length = 1 then .ok (c, ads, r) else .error 141) = moreL c l by unfold moreL; rw [hn]; rfl)
  have cn := h.cn hn
  go_enter Tryz.func14, Tryz.ntmps14
  go_wp2_with fail
  refine (dest_any b c l _ h hl).mono ?_
  intro e w1 h1
  have h1 := h1.more
  obtain ⟨v, rfl⟩ := h1.shape
  go_wp2_with fail
  go_ret
  exact HQ.out ▸ h1

set_option maxRecDepth 100000 in
set_option maxHeartbeats 4000000 in
theorem more_13 (b : Nat) (c : Cm) (l : Bs) (w : World) (h : RD b c l w) (hl : l.length ≤ 1000) (_hdv : c.dv = .slice none 0 0) (hn : c.name = [116]) :
    Calls Tryz.prog 14 #[.pointer (some ⟨b, 0, none⟩)] w (MorePost b (moreL c l) w) := by
  have HQ := Lib.hid (show (match rangeL l with | none => .error 141 | some (ads, r) => if ads.length = 1 then .ok (c, ads, r) else .error 141) = moreL c l by unfold moreL; rw [hn]; rfl)
  have cn := h.cn hn
  go_enter Tryz.func14, Tryz.ntmps14
  go_wp2_with fail
  refine (dest_any b c l _ h hl).mono ?_
  intro e w1 h1
  have h1 := h1.more
  obtain ⟨v, rfl⟩ := h1.shape
  go_wp2_with fail
  go_ret
  exact HQ.out ▸ h1

set_option maxRecDepth 100000 in
set_option maxHeartbeats 4000000 in
theorem more_14 (b : Nat) (c : Cm) (l : Bs) (w : World) (h : RD b c l w) (hl : l.length ≤ 1000) (hdv : c.dv = .slice none 0 0) (hn : c.name = [107]) :
    Calls Tryz.prog 14 #[.pointer (some ⟨b, 0, none⟩)] w (MorePost b (moreL c l) w) := by
  have HQ := Lib.hid (show ofOpt 151 (markC c l) = moreL c l by unfold moreL; rw [hn]; rfl)
  have cn := h.cn hn
  go_enter Tryz.func14, Tryz.ntmps14
  go_wp2_with fail
  refine (mark_any b c l _ h hl).mono ?_
  intro e w1 h1
  obtain ⟨v, rfl⟩ := h1.shape
  go_wp2_with fail
  go_ret
  exact HQ.out ▸ morePost_opt (markC_dv _ _) hdv (Mod.refl _ _) h1

set_option maxRecDepth 100000 in
set_option maxHeartbeats 4000000 in
theorem more_15 (b : Nat) (c : Cm) (l : Bs) (w : World) (h : RD b c l w) (hl : l.length ≤ 1000) (hdv : c.dv = .slice none 0 0) (hn : c.name = [115]) :
    Calls Tryz.prog 14 #[.pointer (some ⟨b, 0, none⟩)] w (MorePost b (moreL c l) w) := by
  have HQ := Lib.hid (show ofOpt 151 (subC c l) = moreL c l by unfold moreL; rw [hn]; rfl)
  have cn := h.cn hn
  go_enter Tryz.func14, Tryz.ntmps14
  go_wp2_with fail
  refine (sub_any b c l _ h hl).mono ?_
  intro e w1 h1
  obtain ⟨v, rfl⟩ := h1.shape
  go_wp2_with fail
  go_ret
  exact HQ.out ▸ morePost_opt (subC_dv _ _) hdv (Mod.refl _ _) h1

set_option maxRecDepth 100000 in
set_option maxHeartbeats 4000000 in
theorem more_16 (b : Nat) (c : Cm) (l : Bs) (w : World) (h : RD b c l w) (hl : l.length ≤ 1000) (hdv : c.dv = .slice none 0 0) (hn : c.name = [38]) :
    Calls Tryz.prog 14 #[.pointer (some ⟨b, 0, none⟩)] w (MorePost b (moreL c l) w) := by
  have HQ := Lib.hid (show ofOpt 151 (flaggedC c l) = moreL c l by unfold moreL; rw [hn]; rfl)
  have cn := h.cn hn
  go_enter Tryz.func14, Tryz.ntmps14
  go_wp2_with fail
  refine (flagged_any b c l _ h hl).mono ?_
  intro e w1 h1
  obtain ⟨v, rfl⟩ := h1.shape
  go_wp2_with fail
  go_ret
  exact HQ.out ▸ morePost_opt (flaggedC_dv _ _) hdv (Mod.refl _ _) h1

set_option maxRecDepth 100000 in
set_option maxHeartbeats 4000000 in
theorem more_17 (b : Nat) (c : Cm) (l : Bs) (w : World) (h : RD b c l w) (hl : l.length ≤ 1000) (hdv : c.dv = .slice none 0 0) (hn : c.name = [38, 38]) :
    Calls Tryz.prog 14 #[.pointer (some ⟨b, 0, none⟩)] w (MorePost b (moreL c l) w) := by
  have HQ := Lib.hid (show ofOpt 151 (flaggedC c l) = moreL c l by unfold moreL; rw [hn]; rfl)
  have cn := h.cn hn
  go_enter Tryz.func14, Tryz.ntmps14
  go_wp2_with fail
  refine (flagged_any b c l _ h hl).mono ?_
  intro e w1 h1
  obtain ⟨v, rfl⟩ := h1.shape
  go_wp2_with fail
  go_ret
  exact HQ.out ▸ morePost_opt (flaggedC_dv _ _) hdv (Mod.refl _ _) h1

set_option maxRecDepth 100000 in
set_option maxHeartbeats 4000000 in
theorem more_18 (b : Nat) (c : Cm) (l : Bs) (w : World) (h : RD b c l w) (hl : l.length ≤ 1000) (hdv : c.dv = .slice none 0 0) (hn : c.name = [126]) :
    Calls Tryz.prog 14 #[.pointer (some ⟨b, 0, none⟩)] w (MorePost b (moreL c l) w) := by
  have HQ := Lib.hid (show ofOpt 151 (flaggedC c l) = moreL c l by unfold moreL; rw [hn]; rfl)
  have cn := h.cn hn
  go_enter Tryz.func14, Tryz.ntmps14
  go_wp2_with fail
  refine (flagged_any b c l _ h hl).mono ?_
  intro e w1 h1
  obtain ⟨v, rfl⟩ := h1.shape
  go_wp2_with fail
  go_ret
  exact HQ.out ▸ morePost_opt (flaggedC_dv _ _) hdv (Mod.refl _ _) h1

set_option maxRecDepth 100000 in
set_option maxHeartbeats 4000000 in
theorem more_19 (b : Nat) (c : Cm) (l : Bs) (w : World) (h : RD b c l w) (hl : l.length ≤ 1000) (hdv : c.dv = .slice none 0 0) (hn : c.name = [103]) :
    Calls Tryz.prog 14 #[.pointer (some ⟨b, 0, none⟩)] w (MorePost b (moreL c l) w) := by
  have HQ := Lib.hid (show ofOpt 150 (globalC c l) = moreL c l by unfold moreL; rw [hn]; rfl)
  have cn := h.cn hn
  go_enter Tryz.func14, Tryz.ntmps14
  go_wp2_with fail
  refine (global_any b c l _ h hl).mono ?_
  intro e w1 h1
  obtain ⟨v, rfl⟩ := h1.shape
  go_wp2_with fail
  go_ret
  exact HQ.out ▸ morePost_opt (globalC_dv _ _) hdv (Mod.refl _ _) h1

set_option maxRecDepth 100000 in
set_option maxHeartbeats 4000000 in
theorem more_20 (b : Nat) (c : Cm) (l : Bs) (w : World) (h : RD b c l w) (hl : l.length ≤ 1000) (hdv : c.dv = .slice none 0 0) (hn : c.name = [118]) :
    Calls Tryz.prog 14 #[.pointer (some ⟨b, 0, none⟩)] w (MorePost b (moreL c l) w) := by
  have HQ := Lib.hid (show ofOpt 150 (globalC c l) = moreL c l by unfold moreL; rw [hn]; rfl)
  have cn := h.cn hn
  go_enter Tryz.func14, Tryz.ntmps14
  go_wp2_with fail
  refine (global_any b c l _ h hl).mono ?_
  intro e w1 h1
  obtain ⟨v, rfl⟩ := h1.shape
  go_wp2_with fail
  go_ret
  exact HQ.out ▸ morePost_opt (globalC_dv _ _) hdv (Mod.refl _ _) h1

set_option maxRecDepth 100000 in
set_option maxHeartbeats 4000000 in
theorem more_21 (b : Nat) (c : Cm) (l : Bs) (w : World) (h : RD b c l w) (hl : l.length ≤ 1000) (hdv : c.dv = .slice none 0 0) (hn : c.name = [110, 111, 114, 109]) :
    Calls Tryz.prog 14 #[.pointer (some ⟨b, 0, none⟩)] w (MorePost b (moreL c l) w) := by
  have HQ := Lib.hid (show ofOpt 151 (keysC c l) = moreL c l by unfold moreL; rw [hn]; rfl)
  have cn := h.cn hn
  go_enter Tryz.func14, Tryz.ntmps14
  go_wp2_with fail
  refine (keys_any b c l _ h hl).mono ?_
  intro e w1 h1
  obtain ⟨v, rfl⟩ := h1.shape
  go_wp2_with fail
  go_ret
  exact HQ.out ▸ morePost_opt (keysC_dv _ _) hdv (Mod.refl _ _) h1

set_option maxRecDepth 100000 in
set_option maxHeartbeats 4000000 in
theorem more_22 (b : Nat) (c : Cm) (l : Bs) (w : World) (h : RD b c l w) (_hl : l.length ≤ 1000) (hdv : c.dv = .slice none 0 0) (hn : c.name = [114, 101, 100]) :
    Calls Tryz.prog 14 #[.pointer (some ⟨b, 0, none⟩)] w (MorePost b (moreL c l) w) := by
  have HQ := Lib.hid (show .ok (c, [], l) = moreL c l by unfold moreL; rw [hn]; rfl)
  have cn := h.cn hn
  go_enter Tryz.func14, Tryz.ntmps14
  go_wp2_with fail
  go_ret
  exact HQ.out ▸ morePost_ok hdv h (Mod.refl _ _)

set_option maxRecDepth 100000 in
set_option maxHeartbeats 4000000 in
theorem more_23 (b : Nat) (c : Cm) (l : Bs) (w : World) (h : RD b c l w) (_hl : l.length ≤ 1000) (hdv : c.dv = .slice none 0 0) (hn : c.name = []) :
    Calls Tryz.prog 14 #[.pointer (some ⟨b, 0, none⟩)] w (MorePost b (moreL c l) w) := by
  have HQ := Lib.hid (show .ok (c, [], l) = moreL c l by unfold moreL; rw [hn]; rfl)
  have cn := h.cn hn
  go_enter Tryz.func14, Tryz.ntmps14
  go_wp2_with fail
  go_ret
  exact HQ.out ▸ morePost_ok hdv h (Mod.refl _ _)

/-- The names that a command may bear. -/
def names : List Bs := [[100], [121], [112, 117], [64], [106], [112], [61], [62], [60], [117], [101, 97, 114, 108, 105, 101, 114], [108, 97, 116, 101, 114], [109], [116], [107], [115], [38], [38, 38], [126], [103], [118], [110, 111, 114, 109], [114, 101, 100], []]
theorem more_any (b : Nat) (c : Cm) (l : Bs) (w : World) (h : RD b c l w) (hl : l.length ≤ 1000) (hdv : c.dv = .slice none 0 0) (hn : c.name ∈ names) :
    Calls Tryz.prog 14 #[.pointer (some ⟨b, 0, none⟩)] w (MorePost b (moreL c l) w) := by
  simp only [names, List.mem_cons, List.not_mem_nil, or_false] at hn
  rcases hn with h0 | h0 | h0 | h0 | h0 | h0 | h0 | h0 | h0 | h0 | h0 | h0 | h0 | h0 | h0 | h0 | h0 | h0 | h0 | h0 | h0 | h0 | h0 | h0
  · exact more_0 b c l w h hl hdv h0
  · exact more_1 b c l w h hl hdv h0
  · exact more_2 b c l w h hl hdv h0
  · exact more_3 b c l w h hl hdv h0
  · exact more_4 b c l w h hl hdv h0
  · exact more_5 b c l w h hl hdv h0
  · exact more_6 b c l w h hl hdv h0
  · exact more_7 b c l w h hl hdv h0
  · exact more_8 b c l w h hl hdv h0
  · exact more_9 b c l w h hl hdv h0
  · exact more_10 b c l w h hl hdv h0
  · exact more_11 b c l w h hl hdv h0
  · exact more_12 b c l w h hl hdv h0
  · exact more_13 b c l w h hl hdv h0
  · exact more_14 b c l w h hl hdv h0
  · exact more_15 b c l w h hl hdv h0
  · exact more_16 b c l w h hl hdv h0
  · exact more_17 b c l w h hl hdv h0
  · exact more_18 b c l w h hl hdv h0
  · exact more_19 b c l w h hl hdv h0
  · exact more_20 b c l w h hl hdv h0
  · exact more_21 b c l w h hl hdv h0
  · exact more_22 b c l w h hl hdv h0
  · exact more_23 b c l w h hl hdv h0
end Go.Proofs.YthajagmccaaanaaGreatDoor
