/- emendatorref15: bold; Reader.rest. -/
import Derived.Test.YthajagmccaaanaaGreatDoorRGlob
namespace Go.Proofs.YthajagmccaaanaaGreatDoor
open Go.RowKit

set_option maxRecDepth 100000 in
set_option maxHeartbeats 4000000 in
theorem rbold_any (n : Bs) (hn : n ∈ names) (w : World) : Calls Tryz.prog 18 #[.string ⟨n.toArray⟩] w fun e w' => e = .returned (.bool (isBold n)) ∧ w' = w := by
  simp only [names, List.mem_cons, List.not_mem_nil, or_false] at hn
  rcases hn with rfl | rfl | rfl | rfl | rfl | rfl | rfl | rfl | rfl | rfl | rfl | rfl | rfl | rfl | rfl | rfl | rfl | rfl | rfl | rfl | rfl | rfl | rfl | rfl
  all_goals
    go_enter Tryz.func18, Tryz.ntmps18
    go_wp2_with fail
    go_ret
    exact ⟨rfl, rfl⟩

theorem numberC_le {c c' : Cm} {l l' : Bs} (h : numberC c l = some (c', l')) : l'.length ≤ l.length := by
  have hb := blanks_le l
  unfold numberC at h
  simp only at h
  split at h
  · cases h
  · split at h
    · cases h; exact hb
    · cases h; simp; omega
theorem flaggedC_le {c c' : Cm} {l l' : Bs} (h : flaggedC c l = some (c', l')) : l'.length ≤ l.length := by
  have hb := blanks_le l
  unfold flaggedC at h
  have := numberC_le h
  simp at this
  omega
theorem subC_le {c c' : Cm} {l l' : Bs} (h : subC c l = some (c', l')) : l'.length ≤ l.length := by
  have hb := blanks_le l
  unfold subC at h
  split at h
  · have := flaggedC_le h
    omega
  · rename_i x t hs
    have h1 := signC_some hs
    rw [h1] at hb
    have := flaggedC_le h
    simp at this hb
    omega
theorem globalC_le {c c' : Cm} {l l' : Bs} (h : globalC c l = some (c', l')) : l'.length ≤ l.length := by
  unfold globalC at h
  split at h
  · cases h
  · cases h; simp
theorem markC_le {c c' : Cm} {l l' : Bs} (h : markC c l = some (c', l')) : l'.length ≤ l.length := by
  have hb := blanks_le l
  unfold markC at h
  split at h
  · cases h
  · rename_i x t hs
    rw [hs] at hb
    cases h
    simp at hb
    omega
theorem keysC_le {c c' : Cm} {l l' : Bs} (h : keysC c l = some (c', l')) : l'.length ≤ l.length := by
  unfold keysC at h
  simp only at h
  split at h
  · cases h
  · cases h; simp
def RMore (b : Nat) (m : Except Int (Cm × List Ad × Bs)) (w w' : World) : Prop :=
  Mod (· = b) w w' ∧ match m with
  | .error k => ∃ c l, l.length ≤ 1000 ∧ RR b c l k w'
  | .ok (c, ads, r) => ∃ p n, r.length ≤ 1000 ∧ RR b { c with dv := .slice p ads.length n } r 0 w' ∧ AdsV w.heap.size (.slice p ads.length n) ads w'
theorem rmore_opt {b : Nat} {r : Option (Cm × Bs)} {n : Int} {c : Cm} {w w' : World} (hle : ∀ c' l', r = some (c', l') → l'.length ≤ 1000) (hd : KeepsDv c r) (hc : c.dv = .slice none 0 0) (h : ROr b r n w w') : RMore b (ofOpt n r) w w' := by
  obtain ⟨hm, h⟩ := h
  refine ⟨hm, ?_⟩
  rcases r with _ | ⟨c', l⟩
  · exact h
  · refine ⟨none, 0, hle _ _ rfl, ?_, AdsV.nil _ _⟩
    have := (hd c' l rfl).trans hc
    have h : RR b c' l 0 w' := h
    show RR b { c' with dv := .slice none 0 0 } l 0 w'
    rw [← this]
    exact h
theorem rmore_ok {b : Nat} {c : Cm} {l : Bs} {w w' : World} (hle : l.length ≤ 1000) (hc : c.dv = .slice none 0 0) (h : RR b c l 0 w') (hm : Mod (· = b) w w') : RMore b (.ok (c, [], l)) w w' := by
  refine ⟨hm, none, 0, hle, ?_, AdsV.nil _ _⟩
  show RR b { c with dv := .slice none 0 0 } l 0 w'
  rw [← hc]
  exact h
theorem rmore_dest {b : Nat} {c : Cm} {l : Bs} {w w' : World} (h : RDest b c l w w') : RMore b (match rangeL l with | none => .error 141 | some (ads, r) => if ads.length = 1 then .ok (c, ads, r) else .error 141) w w' := by
  obtain ⟨hm, h⟩ := h
  refine ⟨hm, ?_⟩
  rcases hr : rangeL l with _ | ⟨ads, r⟩
  · rw [hr] at h
    exact h
  · rw [hr] at h
    simp only at h ⊢
    by_cases h1 : ads.length = 1
    · rw [if_pos h1] at h ⊢
      obtain ⟨p, n, h0, h2, h3⟩ := h
      refine ⟨p, n, h0, ?_, ?_⟩
      · rw [h1]; exact h2
      · rw [h1]; exact h3
    · rw [if_neg h1] at h ⊢
      exact h

set_option maxRecDepth 100000 in
set_option maxHeartbeats 4000000 in
theorem rmore_0 (b : Nat) (c : Cm) (l : Bs) (w : World) (h : RR b c l 0 w) (hl : l.length ≤ 1000) (hdv : c.dv = .slice none 0 0) (hn : c.name = [100]) :
    Calls Tryz.prog 19 #[.pointer (some ⟨b, 0, none⟩)] w fun x w' => x = .returned (.tuple #[]) ∧ RMore b (moreL c l) w w' := by
  have HQ := Lib.hid (show ofOpt 151 (numberC (registerC c l).1 (registerC c l).2) = moreL c l by unfold moreL; rw [hn]; rfl)
  have HH := Lib.hid h
  have HDV := Lib.hid hdv
  have cn := h.c1
  rw [hn] at cn
  have hltb := lt_of_blk h
  clear h hn hdv
  go_enter Tryz.func19, Tryz.ntmps19
  go_wp2_with fail
  refine (rregister_any b c l _ HH.out hl).mono ?_
  rintro e w1 ⟨rfl, h1, hm1⟩
  have HH1 := Lib.hid h1
  go_wp2_with fail
  refine (rnumberC_any b _ _ _ HH1.out (by have := registerC_le c l; omega)).mono ?_
  rintro e w2 ⟨rfl, hm2, hor⟩
  go_wp2_with fail
  go_end0
  exact ⟨rfl, HQ.out ▸ rmore_opt (fun c' l' h => by have := numberC_le h; have := registerC_le c l; omega) (numberC_dv _ _) ((registerC_dv c l).trans HDV.out) ⟨Mod.trans hm1 hm2, hor⟩⟩

set_option maxRecDepth 100000 in
set_option maxHeartbeats 4000000 in
theorem rmore_1 (b : Nat) (c : Cm) (l : Bs) (w : World) (h : RR b c l 0 w) (hl : l.length ≤ 1000) (hdv : c.dv = .slice none 0 0) (hn : c.name = [121]) :
    Calls Tryz.prog 19 #[.pointer (some ⟨b, 0, none⟩)] w fun x w' => x = .returned (.tuple #[]) ∧ RMore b (moreL c l) w w' := by
  have HQ := Lib.hid (show ofOpt 151 (numberC (registerC c l).1 (registerC c l).2) = moreL c l by unfold moreL; rw [hn]; rfl)
  have HH := Lib.hid h
  have HDV := Lib.hid hdv
  have cn := h.c1
  rw [hn] at cn
  have hltb := lt_of_blk h
  clear h hn hdv
  go_enter Tryz.func19, Tryz.ntmps19
  go_wp2_with fail
  refine (rregister_any b c l _ HH.out hl).mono ?_
  rintro e w1 ⟨rfl, h1, hm1⟩
  have HH1 := Lib.hid h1
  go_wp2_with fail
  refine (rnumberC_any b _ _ _ HH1.out (by have := registerC_le c l; omega)).mono ?_
  rintro e w2 ⟨rfl, hm2, hor⟩
  go_wp2_with fail
  go_end0
  exact ⟨rfl, HQ.out ▸ rmore_opt (fun c' l' h => by have := numberC_le h; have := registerC_le c l; omega) (numberC_dv _ _) ((registerC_dv c l).trans HDV.out) ⟨Mod.trans hm1 hm2, hor⟩⟩

set_option maxRecDepth 100000 in
set_option maxHeartbeats 4000000 in
theorem rmore_2 (b : Nat) (c : Cm) (l : Bs) (w : World) (h : RR b c l 0 w) (hl : l.length ≤ 1000) (hdv : c.dv = .slice none 0 0) (hn : c.name = [112, 117]) :
    Calls Tryz.prog 19 #[.pointer (some ⟨b, 0, none⟩)] w fun x w' => x = .returned (.tuple #[]) ∧ RMore b (moreL c l) w w' := by
  have HQ := Lib.hid (show .ok ((registerC c l).1, [], (registerC c l).2) = moreL c l by unfold moreL; rw [hn]; rfl)
  have HH := Lib.hid h
  have HDV := Lib.hid hdv
  have cn := h.c1
  rw [hn] at cn
  have hltb := lt_of_blk h
  clear h hn hdv
  go_enter Tryz.func19, Tryz.ntmps19
  go_wp2_with fail
  refine (rregister_any b c l _ HH.out hl).mono ?_
  rintro e w1 ⟨rfl, h1, hm1⟩
  have HH1 := Lib.hid h1
  go_wp2_with fail
  go_end0
  exact ⟨rfl, HQ.out ▸ rmore_ok (by have := registerC_le c l; omega) ((registerC_dv c l).trans HDV.out) HH1.out hm1⟩

set_option maxRecDepth 100000 in
set_option maxHeartbeats 4000000 in
theorem rmore_3 (b : Nat) (c : Cm) (l : Bs) (w : World) (h : RR b c l 0 w) (hl : l.length ≤ 1000) (hdv : c.dv = .slice none 0 0) (hn : c.name = [64]) :
    Calls Tryz.prog 19 #[.pointer (some ⟨b, 0, none⟩)] w fun x w' => x = .returned (.tuple #[]) ∧ RMore b (moreL c l) w w' := by
  have HQ := Lib.hid (show .ok ((registerC c l).1, [], (registerC c l).2) = moreL c l by unfold moreL; rw [hn]; rfl)
  have HH := Lib.hid h
  have HDV := Lib.hid hdv
  have cn := h.c1
  rw [hn] at cn
  have hltb := lt_of_blk h
  clear h hn hdv
  go_enter Tryz.func19, Tryz.ntmps19
  go_wp2_with fail
  refine (rregister_any b c l _ HH.out hl).mono ?_
  rintro e w1 ⟨rfl, h1, hm1⟩
  have HH1 := Lib.hid h1
  go_wp2_with fail
  go_end0
  exact ⟨rfl, HQ.out ▸ rmore_ok (by have := registerC_le c l; omega) ((registerC_dv c l).trans HDV.out) HH1.out hm1⟩

set_option maxRecDepth 100000 in
set_option maxHeartbeats 4000000 in
theorem rmore_4 (b : Nat) (c : Cm) (l : Bs) (w : World) (h : RR b c l 0 w) (hl : l.length ≤ 1000) (hdv : c.dv = .slice none 0 0) (hn : c.name = [106]) :
    Calls Tryz.prog 19 #[.pointer (some ⟨b, 0, none⟩)] w fun x w' => x = .returned (.tuple #[]) ∧ RMore b (moreL c l) w w' := by
  have HQ := Lib.hid (show ofOpt 151 (numberC c l) = moreL c l by unfold moreL; rw [hn]; rfl)
  have HH := Lib.hid h
  have HDV := Lib.hid hdv
  have cn := h.c1
  rw [hn] at cn
  have hltb := lt_of_blk h
  clear h hn hdv
  go_enter Tryz.func19, Tryz.ntmps19
  go_wp2_with fail
  refine (rnumberC_any b c l _ HH.out hl).mono ?_
  rintro e w1 ⟨rfl, hor⟩
  go_wp2_with fail
  go_end0
  exact ⟨rfl, HQ.out ▸ rmore_opt (fun c' l' h => by have := numberC_le h; omega) (numberC_dv _ _) HDV.out hor⟩

set_option maxRecDepth 100000 in
set_option maxHeartbeats 4000000 in
theorem rmore_5 (b : Nat) (c : Cm) (l : Bs) (w : World) (h : RR b c l 0 w) (hl : l.length ≤ 1000) (hdv : c.dv = .slice none 0 0) (hn : c.name = [112]) :
    Calls Tryz.prog 19 #[.pointer (some ⟨b, 0, none⟩)] w fun x w' => x = .returned (.tuple #[]) ∧ RMore b (moreL c l) w w' := by
  have HQ := Lib.hid (show ofOpt 151 (numberC c l) = moreL c l by unfold moreL; rw [hn]; rfl)
  have HH := Lib.hid h
  have HDV := Lib.hid hdv
  have cn := h.c1
  rw [hn] at cn
  have hltb := lt_of_blk h
  clear h hn hdv
  go_enter Tryz.func19, Tryz.ntmps19
  go_wp2_with fail
  refine (rnumberC_any b c l _ HH.out hl).mono ?_
  rintro e w1 ⟨rfl, hor⟩
  go_wp2_with fail
  go_end0
  exact ⟨rfl, HQ.out ▸ rmore_opt (fun c' l' h => by have := numberC_le h; omega) (numberC_dv _ _) HDV.out hor⟩

set_option maxRecDepth 100000 in
set_option maxHeartbeats 4000000 in
theorem rmore_6 (b : Nat) (c : Cm) (l : Bs) (w : World) (h : RR b c l 0 w) (hl : l.length ≤ 1000) (hdv : c.dv = .slice none 0 0) (hn : c.name = [61]) :
    Calls Tryz.prog 19 #[.pointer (some ⟨b, 0, none⟩)] w fun x w' => x = .returned (.tuple #[]) ∧ RMore b (moreL c l) w w' := by
  have HQ := Lib.hid (show ofOpt 151 (numberC c l) = moreL c l by unfold moreL; rw [hn]; rfl)
  have HH := Lib.hid h
  have HDV := Lib.hid hdv
  have cn := h.c1
  rw [hn] at cn
  have hltb := lt_of_blk h
  clear h hn hdv
  go_enter Tryz.func19, Tryz.ntmps19
  go_wp2_with fail
  refine (rnumberC_any b c l _ HH.out hl).mono ?_
  rintro e w1 ⟨rfl, hor⟩
  go_wp2_with fail
  go_end0
  exact ⟨rfl, HQ.out ▸ rmore_opt (fun c' l' h => by have := numberC_le h; omega) (numberC_dv _ _) HDV.out hor⟩

set_option maxRecDepth 100000 in
set_option maxHeartbeats 4000000 in
theorem rmore_7 (b : Nat) (c : Cm) (l : Bs) (w : World) (h : RR b c l 0 w) (hl : l.length ≤ 1000) (hdv : c.dv = .slice none 0 0) (hn : c.name = [62]) :
    Calls Tryz.prog 19 #[.pointer (some ⟨b, 0, none⟩)] w fun x w' => x = .returned (.tuple #[]) ∧ RMore b (moreL c l) w w' := by
  have HQ := Lib.hid (show ofOpt 151 (numberC c l) = moreL c l by unfold moreL; rw [hn]; rfl)
  have HH := Lib.hid h
  have HDV := Lib.hid hdv
  have cn := h.c1
  rw [hn] at cn
  have hltb := lt_of_blk h
  clear h hn hdv
  go_enter Tryz.func19, Tryz.ntmps19
  go_wp2_with fail
  refine (rnumberC_any b c l _ HH.out hl).mono ?_
  rintro e w1 ⟨rfl, hor⟩
  go_wp2_with fail
  go_end0
  exact ⟨rfl, HQ.out ▸ rmore_opt (fun c' l' h => by have := numberC_le h; omega) (numberC_dv _ _) HDV.out hor⟩

set_option maxRecDepth 100000 in
set_option maxHeartbeats 4000000 in
theorem rmore_8 (b : Nat) (c : Cm) (l : Bs) (w : World) (h : RR b c l 0 w) (hl : l.length ≤ 1000) (hdv : c.dv = .slice none 0 0) (hn : c.name = [60]) :
    Calls Tryz.prog 19 #[.pointer (some ⟨b, 0, none⟩)] w fun x w' => x = .returned (.tuple #[]) ∧ RMore b (moreL c l) w w' := by
  have HQ := Lib.hid (show ofOpt 151 (numberC c l) = moreL c l by unfold moreL; rw [hn]; rfl)
  have HH := Lib.hid h
  have HDV := Lib.hid hdv
  have cn := h.c1
  rw [hn] at cn
  have hltb := lt_of_blk h
  clear h hn hdv
  go_enter Tryz.func19, Tryz.ntmps19
  go_wp2_with fail
  refine (rnumberC_any b c l _ HH.out hl).mono ?_
  rintro e w1 ⟨rfl, hor⟩
  go_wp2_with fail
  go_end0
  exact ⟨rfl, HQ.out ▸ rmore_opt (fun c' l' h => by have := numberC_le h; omega) (numberC_dv _ _) HDV.out hor⟩

set_option maxRecDepth 100000 in
set_option maxHeartbeats 4000000 in
theorem rmore_9 (b : Nat) (c : Cm) (l : Bs) (w : World) (h : RR b c l 0 w) (hl : l.length ≤ 1000) (hdv : c.dv = .slice none 0 0) (hn : c.name = [117]) :
    Calls Tryz.prog 19 #[.pointer (some ⟨b, 0, none⟩)] w fun x w' => x = .returned (.tuple #[]) ∧ RMore b (moreL c l) w w' := by
  have HQ := Lib.hid (show ofOpt 151 (numberC c l) = moreL c l by unfold moreL; rw [hn]; rfl)
  have HH := Lib.hid h
  have HDV := Lib.hid hdv
  have cn := h.c1
  rw [hn] at cn
  have hltb := lt_of_blk h
  clear h hn hdv
  go_enter Tryz.func19, Tryz.ntmps19
  go_wp2_with fail
  refine (rnumberC_any b c l _ HH.out hl).mono ?_
  rintro e w1 ⟨rfl, hor⟩
  go_wp2_with fail
  go_end0
  exact ⟨rfl, HQ.out ▸ rmore_opt (fun c' l' h => by have := numberC_le h; omega) (numberC_dv _ _) HDV.out hor⟩

set_option maxRecDepth 100000 in
set_option maxHeartbeats 4000000 in
theorem rmore_10 (b : Nat) (c : Cm) (l : Bs) (w : World) (h : RR b c l 0 w) (hl : l.length ≤ 1000) (hdv : c.dv = .slice none 0 0) (hn : c.name = [101, 97, 114, 108, 105, 101, 114]) :
    Calls Tryz.prog 19 #[.pointer (some ⟨b, 0, none⟩)] w fun x w' => x = .returned (.tuple #[]) ∧ RMore b (moreL c l) w w' := by
  have HQ := Lib.hid (show ofOpt 151 (numberC c l) = moreL c l by unfold moreL; rw [hn]; rfl)
  have HH := Lib.hid h
  have HDV := Lib.hid hdv
  have cn := h.c1
  rw [hn] at cn
  have hltb := lt_of_blk h
  clear h hn hdv
  go_enter Tryz.func19, Tryz.ntmps19
  go_wp2_with fail
  refine (rnumberC_any b c l _ HH.out hl).mono ?_
  rintro e w1 ⟨rfl, hor⟩
  go_wp2_with fail
  go_end0
  exact ⟨rfl, HQ.out ▸ rmore_opt (fun c' l' h => by have := numberC_le h; omega) (numberC_dv _ _) HDV.out hor⟩

set_option maxRecDepth 100000 in
set_option maxHeartbeats 4000000 in
theorem rmore_11 (b : Nat) (c : Cm) (l : Bs) (w : World) (h : RR b c l 0 w) (hl : l.length ≤ 1000) (hdv : c.dv = .slice none 0 0) (hn : c.name = [108, 97, 116, 101, 114]) :
    Calls Tryz.prog 19 #[.pointer (some ⟨b, 0, none⟩)] w fun x w' => x = .returned (.tuple #[]) ∧ RMore b (moreL c l) w w' := by
  have HQ := Lib.hid (show ofOpt 151 (numberC c l) = moreL c l by unfold moreL; rw [hn]; rfl)
  have HH := Lib.hid h
  have HDV := Lib.hid hdv
  have cn := h.c1
  rw [hn] at cn
  have hltb := lt_of_blk h
  clear h hn hdv
  go_enter Tryz.func19, Tryz.ntmps19
  go_wp2_with fail
  refine (rnumberC_any b c l _ HH.out hl).mono ?_
  rintro e w1 ⟨rfl, hor⟩
  go_wp2_with fail
  go_end0
  exact ⟨rfl, HQ.out ▸ rmore_opt (fun c' l' h => by have := numberC_le h; omega) (numberC_dv _ _) HDV.out hor⟩
end Go.Proofs.YthajagmccaaanaaGreatDoor
