/- cmd.reader: more, part 1. -/
import Derived.Test.YthajagmccaaanaaGreatDoorMore
namespace Go.Proofs.YthajagmccaaanaaGreatDoor
open Go.RowKit

set_option maxRecDepth 100000 in
set_option maxHeartbeats 4000000 in
theorem more_0 (b : Nat) (c : Cm) (l : Bs) (w : World) (h : RD b c l w) (hl : l.length ≤ 1000) (hdv : c.dv = .slice none 0 0) (hn : c.name = [100]) :
    Calls Tryz.prog 14 #[.pointer (some ⟨b, 0, none⟩)] w (MorePost b (moreL c l) w) := by
  have HQ := Lib.hid (show ofOpt 151 (numberC (registerC c l).1 (registerC c l).2) = moreL c l by unfold moreL; rw [hn]; rfl)
  have cn := h.cn hn
  go_enter Tryz.func14, Tryz.ntmps14
  go_wp2_with fail
  refine (register_any b c l _ h hl).mono ?_
  rintro e w1 ⟨rfl, h1, hm1⟩
  go_wp2_with fail
  refine (cnum_any b _ _ _ h1 (by have := registerC_le c l; omega)).mono ?_
  intro e w2 h2
  obtain ⟨v, rfl⟩ := h2.shape
  go_wp2_with fail
  go_ret
  exact HQ.out ▸ morePost_opt (numberC_dv _ _) ((registerC_dv c l).trans hdv) hm1 h2

set_option maxRecDepth 100000 in
set_option maxHeartbeats 4000000 in
theorem more_1 (b : Nat) (c : Cm) (l : Bs) (w : World) (h : RD b c l w) (hl : l.length ≤ 1000) (hdv : c.dv = .slice none 0 0) (hn : c.name = [121]) :
    Calls Tryz.prog 14 #[.pointer (some ⟨b, 0, none⟩)] w (MorePost b (moreL c l) w) := by
  have HQ := Lib.hid (show ofOpt 151 (numberC (registerC c l).1 (registerC c l).2) = moreL c l by unfold moreL; rw [hn]; rfl)
  have cn := h.cn hn
  go_enter Tryz.func14, Tryz.ntmps14
  go_wp2_with fail
  refine (register_any b c l _ h hl).mono ?_
  rintro e w1 ⟨rfl, h1, hm1⟩
  go_wp2_with fail
  refine (cnum_any b _ _ _ h1 (by have := registerC_le c l; omega)).mono ?_
  intro e w2 h2
  obtain ⟨v, rfl⟩ := h2.shape
  go_wp2_with fail
  go_ret
  exact HQ.out ▸ morePost_opt (numberC_dv _ _) ((registerC_dv c l).trans hdv) hm1 h2

set_option maxRecDepth 100000 in
set_option maxHeartbeats 4000000 in
theorem more_2 (b : Nat) (c : Cm) (l : Bs) (w : World) (h : RD b c l w) (hl : l.length ≤ 1000) (hdv : c.dv = .slice none 0 0) (hn : c.name = [112, 117]) :
    Calls Tryz.prog 14 #[.pointer (some ⟨b, 0, none⟩)] w (MorePost b (moreL c l) w) := by
  have HQ := Lib.hid (show .ok ((registerC c l).1, [], (registerC c l).2) = moreL c l by unfold moreL; rw [hn]; rfl)
  have cn := h.cn hn
  go_enter Tryz.func14, Tryz.ntmps14
  go_wp2_with fail
  refine (register_any b c l _ h hl).mono ?_
  rintro e w1 ⟨rfl, h1, hm1⟩
  go_wp2_with fail
  go_ret
  exact HQ.out ▸ morePost_ok ((registerC_dv c l).trans hdv) h1 hm1

set_option maxRecDepth 100000 in
set_option maxHeartbeats 4000000 in
theorem more_3 (b : Nat) (c : Cm) (l : Bs) (w : World) (h : RD b c l w) (hl : l.length ≤ 1000) (hdv : c.dv = .slice none 0 0) (hn : c.name = [64]) :
    Calls Tryz.prog 14 #[.pointer (some ⟨b, 0, none⟩)] w (MorePost b (moreL c l) w) := by
  have HQ := Lib.hid (show .ok ((registerC c l).1, [], (registerC c l).2) = moreL c l by unfold moreL; rw [hn]; rfl)
  have cn := h.cn hn
  go_enter Tryz.func14, Tryz.ntmps14
  go_wp2_with fail
  refine (register_any b c l _ h hl).mono ?_
  rintro e w1 ⟨rfl, h1, hm1⟩
  go_wp2_with fail
  go_ret
  exact HQ.out ▸ morePost_ok ((registerC_dv c l).trans hdv) h1 hm1

set_option maxRecDepth 100000 in
set_option maxHeartbeats 4000000 in
theorem more_4 (b : Nat) (c : Cm) (l : Bs) (w : World) (h : RD b c l w) (hl : l.length ≤ 1000) (hdv : c.dv = .slice none 0 0) (hn : c.name = [106]) :
    Calls Tryz.prog 14 #[.pointer (some ⟨b, 0, none⟩)] w (MorePost b (moreL c l) w) := by
  have HQ := Lib.hid (show ofOpt 151 (numberC c l) = moreL c l by unfold moreL; rw [hn]; rfl)
  have cn := h.cn hn
  go_enter Tryz.func14, Tryz.ntmps14
  go_wp2_with fail
  refine (cnum_any b c l _ h hl).mono ?_
  intro e w1 h1
  obtain ⟨v, rfl⟩ := h1.shape
  go_wp2_with fail
  go_ret
  exact HQ.out ▸ morePost_opt (numberC_dv _ _) hdv (Mod.refl _ _) h1

set_option maxRecDepth 100000 in
set_option maxHeartbeats 4000000 in
theorem more_5 (b : Nat) (c : Cm) (l : Bs) (w : World) (h : RD b c l w) (hl : l.length ≤ 1000) (hdv : c.dv = .slice none 0 0) (hn : c.name = [112]) :
    Calls Tryz.prog 14 #[.pointer (some ⟨b, 0, none⟩)] w (MorePost b (moreL c l) w) := by
  have HQ := Lib.hid (show ofOpt 151 (numberC c l) = moreL c l by unfold moreL; rw [hn]; rfl)
  have cn := h.cn hn
  go_enter Tryz.func14, Tryz.ntmps14
  go_wp2_with fail
  refine (cnum_any b c l _ h hl).mono ?_
  intro e w1 h1
  obtain ⟨v, rfl⟩ := h1.shape
  go_wp2_with fail
  go_ret
  exact HQ.out ▸ morePost_opt (numberC_dv _ _) hdv (Mod.refl _ _) h1

set_option maxRecDepth 100000 in
set_option maxHeartbeats 4000000 in
theorem more_6 (b : Nat) (c : Cm) (l : Bs) (w : World) (h : RD b c l w) (hl : l.length ≤ 1000) (hdv : c.dv = .slice none 0 0) (hn : c.name = [61]) :
    Calls Tryz.prog 14 #[.pointer (some ⟨b, 0, none⟩)] w (MorePost b (moreL c l) w) := by
  have HQ := Lib.hid (show ofOpt 151 (numberC c l) = moreL c l by unfold moreL; rw [hn]; rfl)
  have cn := h.cn hn
  go_enter Tryz.func14, Tryz.ntmps14
  go_wp2_with fail
  refine (cnum_any b c l _ h hl).mono ?_
  intro e w1 h1
  obtain ⟨v, rfl⟩ := h1.shape
  go_wp2_with fail
  go_ret
  exact HQ.out ▸ morePost_opt (numberC_dv _ _) hdv (Mod.refl _ _) h1

set_option maxRecDepth 100000 in
set_option maxHeartbeats 4000000 in
theorem more_7 (b : Nat) (c : Cm) (l : Bs) (w : World) (h : RD b c l w) (hl : l.length ≤ 1000) (hdv : c.dv = .slice none 0 0) (hn : c.name = [62]) :
    Calls Tryz.prog 14 #[.pointer (some ⟨b, 0, none⟩)] w (MorePost b (moreL c l) w) := by
  have HQ := Lib.hid (show ofOpt 151 (numberC c l) = moreL c l by unfold moreL; rw [hn]; rfl)
  have cn := h.cn hn
  go_enter Tryz.func14, Tryz.ntmps14
  go_wp2_with fail
  refine (cnum_any b c l _ h hl).mono ?_
  intro e w1 h1
  obtain ⟨v, rfl⟩ := h1.shape
  go_wp2_with fail
  go_ret
  exact HQ.out ▸ morePost_opt (numberC_dv _ _) hdv (Mod.refl _ _) h1

set_option maxRecDepth 100000 in
set_option maxHeartbeats 4000000 in
theorem more_8 (b : Nat) (c : Cm) (l : Bs) (w : World) (h : RD b c l w) (hl : l.length ≤ 1000) (hdv : c.dv = .slice none 0 0) (hn : c.name = [60]) :
    Calls Tryz.prog 14 #[.pointer (some ⟨b, 0, none⟩)] w (MorePost b (moreL c l) w) := by
  have HQ := Lib.hid (show ofOpt 151 (numberC c l) = moreL c l by unfold moreL; rw [hn]; rfl)
  have cn := h.cn hn
  go_enter Tryz.func14, Tryz.ntmps14
  go_wp2_with fail
  refine (cnum_any b c l _ h hl).mono ?_
  intro e w1 h1
  obtain ⟨v, rfl⟩ := h1.shape
  go_wp2_with fail
  go_ret
  exact HQ.out ▸ morePost_opt (numberC_dv _ _) hdv (Mod.refl _ _) h1

set_option maxRecDepth 100000 in
set_option maxHeartbeats 4000000 in
theorem more_9 (b : Nat) (c : Cm) (l : Bs) (w : World) (h : RD b c l w) (hl : l.length ≤ 1000) (hdv : c.dv = .slice none 0 0) (hn : c.name = [117]) :
    Calls Tryz.prog 14 #[.pointer (some ⟨b, 0, none⟩)] w (MorePost b (moreL c l) w) := by
  have HQ := Lib.hid (show ofOpt 151 (numberC c l) = moreL c l by unfold moreL; rw [hn]; rfl)
  have cn := h.cn hn
  go_enter Tryz.func14, Tryz.ntmps14
  go_wp2_with fail
  refine (cnum_any b c l _ h hl).mono ?_
  intro e w1 h1
  obtain ⟨v, rfl⟩ := h1.shape
  go_wp2_with fail
  go_ret
  exact HQ.out ▸ morePost_opt (numberC_dv _ _) hdv (Mod.refl _ _) h1

set_option maxRecDepth 100000 in
set_option maxHeartbeats 4000000 in
theorem more_10 (b : Nat) (c : Cm) (l : Bs) (w : World) (h : RD b c l w) (hl : l.length ≤ 1000) (hdv : c.dv = .slice none 0 0) (hn : c.name = [101, 97, 114, 108, 105, 101, 114]) :
    Calls Tryz.prog 14 #[.pointer (some ⟨b, 0, none⟩)] w (MorePost b (moreL c l) w) := by
  have HQ := Lib.hid (show ofOpt 151 (numberC c l) = moreL c l by unfold moreL; rw [hn]; rfl)
  have cn := h.cn hn
  go_enter Tryz.func14, Tryz.ntmps14
  go_wp2_with fail
  refine (cnum_any b c l _ h hl).mono ?_
  intro e w1 h1
  obtain ⟨v, rfl⟩ := h1.shape
  go_wp2_with fail
  go_ret
  exact HQ.out ▸ morePost_opt (numberC_dv _ _) hdv (Mod.refl _ _) h1

set_option maxRecDepth 100000 in
set_option maxHeartbeats 4000000 in
theorem more_11 (b : Nat) (c : Cm) (l : Bs) (w : World) (h : RD b c l w) (hl : l.length ≤ 1000) (hdv : c.dv = .slice none 0 0) (hn : c.name = [108, 97, 116, 101, 114]) :
    Calls Tryz.prog 14 #[.pointer (some ⟨b, 0, none⟩)] w (MorePost b (moreL c l) w) := by
  have HQ := Lib.hid (show ofOpt 151 (numberC c l) = moreL c l by unfold moreL; rw [hn]; rfl)
  have cn := h.cn hn
  go_enter Tryz.func14, Tryz.ntmps14
  go_wp2_with fail
  refine (cnum_any b c l _ h hl).mono ?_
  intro e w1 h1
  obtain ⟨v, rfl⟩ := h1.shape
  go_wp2_with fail
  go_ret
  exact HQ.out ▸ morePost_opt (numberC_dv _ _) hdv (Mod.refl _ _) h1
end Go.Proofs.YthajagmccaaanaaGreatDoor
