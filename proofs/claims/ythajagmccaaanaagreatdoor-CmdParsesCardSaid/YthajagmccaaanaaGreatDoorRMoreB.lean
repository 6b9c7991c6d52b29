/- emendatorref15.Reader.rest, the rest. -/
import Derived.Test.YthajagmccaaanaaGreatDoorRMore
namespace Go.Proofs.YthajagmccaaanaaGreatDoor
open Go.RowKit

set_option maxRecDepth 100000 in
set_option maxHeartbeats 4000000 in
theorem rmore_12 (b : Nat) (c : Cm) (l : Bs) (w : World) (h : RR b c l 0 w) (hl : l.length ≤ 1000) (hdv : c.dv = .slice none 0 0) (hn : c.name = [109]) :
    Calls Tryz.prog 19 #[.pointer (some ⟨b, 0, none⟩)] w fun x w' => x = .returned (.tuple #[]) ∧ RMore b (moreL c l) w w' := by
  have HQ := Lib.hid (show (match rangeL l with | none => .error 141 | some (ads, r) => if ads.length = 1 then .ok (c, ads, r) else .error 141) = moreL c l by unfold moreL; rw [hn]; rfl)
  have HH := Lib.hid h
  have HDV := Lib.hid hdv
  have cn := h.c1
  rw [hn] at cn
  have hltb := lt_of_blk h
  clear h hn hdv
  go_enter Tryz.func19, Tryz.ntmps19
  go_wp2_with fail
  refine (rdest_any b c l _ HH.out hl).mono ?_
  rintro e w1 ⟨rfl, hor⟩
  go_wp2_with fail
  go_end0
  exact ⟨rfl, HQ.out ▸ rmore_dest hor⟩

set_option maxRecDepth 100000 in
set_option maxHeartbeats 4000000 in
theorem rmore_13 (b : Nat) (c : Cm) (l : Bs) (w : World) (h : RR b c l 0 w) (hl : l.length ≤ 1000) (hdv : c.dv = .slice none 0 0) (hn : c.name = [116]) :
    Calls Tryz.prog 19 #[.pointer (some ⟨b, 0, none⟩)] w fun x w' => x = .returned (.tuple #[]) ∧ RMore b (moreL c l) w w' := by
  have HQ := Lib.hid (show (match rangeL l with | none => .error 141 | some (ads, r) => if ads.length = 1 then .ok (c, ads, r) else .error 141) = moreL c l by unfold moreL; rw [hn]; rfl)
  have HH := Lib.hid h
  have HDV := Lib.hid hdv
  have cn := h.c1
  rw [hn] at cn
  have hltb := lt_of_blk h
  clear h hn hdv
  go_enter Tryz.func19, Tryz.ntmps19
  go_wp2_with fail
  refine (rdest_any b c l _ HH.out hl).mono ?_
  rintro e w1 ⟨rfl, hor⟩
  go_wp2_with fail
  go_end0
  exact ⟨rfl, HQ.out ▸ rmore_dest hor⟩

set_option maxRecDepth 100000 in
set_option maxHeartbeats 4000000 in
theorem rmore_14 (b : Nat) (c : Cm) (l : Bs) (w : World) (h : RR b c l 0 w) (hl : l.length ≤ 1000) (hdv : c.dv = .slice none 0 0) (hn : c.name = [107]) :
    Calls Tryz.prog 19 #[.pointer (some ⟨b, 0, none⟩)] w fun x w' => x = .returned (.tuple #[]) ∧ RMore b (moreL c l) w w' := by
  have HQ := Lib.hid (show ofOpt 151 (markC c l) = moreL c l by unfold moreL; rw [hn]; rfl)
  have HH := Lib.hid h
  have HDV := Lib.hid hdv
  have cn := h.c1
  rw [hn] at cn
  have hltb := lt_of_blk h
  clear h hn hdv
  go_enter Tryz.func19, Tryz.ntmps19
  go_wp2_with fail
  refine (rrblanks_any b c l 0 _ HH.out hl).mono ?_
  rintro e w1 ⟨rfl, h1, hm1⟩
  have hbl := blanks_le l
  rcases hb : blanks l with _ | ⟨y, t⟩
  · rw [hb] at h1
    have HB := Lib.hid (show markC c l = none by unfold markC; rw [hb])
    clear hb hbl
    have c10 := h1.c10
    have HH1 := Lib.hid h1
    go_wp2_with fail
    refine (wrong_any b c [] 0 151 _ HH1.out).mono ?_
    rintro e w3 ⟨rfl, h3, hm3⟩
    rw [if_pos rfl] at h3
    have HH3 := Lib.hid h3
    go_wp2_with fail
    refine bodyPost_ret (results_none rfl _ _ _) rfl ?_
    refine ⟨rfl, ?_⟩
    rw [← HQ.out, HB.out]
    exact ⟨Mod.trans hm1 hm3, _, _, by simp, HH3.out⟩
  · rw [hb] at h1 hbl
    have HB := Lib.hid (show markC c l = some ({ c with reg := y }, t) by unfold markC; rw [hb])
    have hlt : t.length + 1 ≤ 1000 := by simp at hbl; omega
    have hex := ex_tail y t
    clear hb hbl
    have c10 := h1.c10
    have f10 := h1.fz 10
    have c3 := h1.c3
    have f3 := h1.fz 3
    have HH1 := Lib.hid h1
    go_wp2_with fail
    go_end0
    refine ⟨rfl, ?_⟩
    rw [← HQ.out]
    refine rmore_opt (fun c' l' h => by have := markC_le h; omega) (markC_dv c l) HDV.out ⟨(hm1.set1 3 _).set1 10 _, ?_⟩
    rw [HB.out]
    exact (HH1.out.setReg y).setRest t

set_option maxRecDepth 100000 in
set_option maxHeartbeats 4000000 in
theorem rmore_15 (b : Nat) (c : Cm) (l : Bs) (w : World) (h : RR b c l 0 w) (hl : l.length ≤ 1000) (hdv : c.dv = .slice none 0 0) (hn : c.name = [115]) :
    Calls Tryz.prog 19 #[.pointer (some ⟨b, 0, none⟩)] w fun x w' => x = .returned (.tuple #[]) ∧ RMore b (moreL c l) w w' := by
  have HQ := Lib.hid (show ofOpt 151 (subC c l) = moreL c l by unfold moreL; rw [hn]; rfl)
  have HH := Lib.hid h
  have HDV := Lib.hid hdv
  have cn := h.c1
  rw [hn] at cn
  have hltb := lt_of_blk h
  clear h hn hdv
  go_enter Tryz.func19, Tryz.ntmps19
  go_wp2_with fail
  refine (rsub_any b c l _ HH.out hl).mono ?_
  rintro e w1 ⟨rfl, hor⟩
  go_wp2_with fail
  go_end0
  exact ⟨rfl, HQ.out ▸ rmore_opt (fun c' l' h => by have := subC_le h; omega) (subC_dv _ _) HDV.out hor⟩

set_option maxRecDepth 100000 in
set_option maxHeartbeats 4000000 in
theorem rmore_16 (b : Nat) (c : Cm) (l : Bs) (w : World) (h : RR b c l 0 w) (hl : l.length ≤ 1000) (hdv : c.dv = .slice none 0 0) (hn : c.name = [38]) :
    Calls Tryz.prog 19 #[.pointer (some ⟨b, 0, none⟩)] w fun x w' => x = .returned (.tuple #[]) ∧ RMore b (moreL c l) w w' := by
  have HQ := Lib.hid (show ofOpt 151 (flaggedC c l) = moreL c l by unfold moreL; rw [hn]; rfl)
  have HH := Lib.hid h
  have HDV := Lib.hid hdv
  have cn := h.c1
  rw [hn] at cn
  have hltb := lt_of_blk h
  clear h hn hdv
  go_enter Tryz.func19, Tryz.ntmps19
  go_wp2_with fail
  refine (rflags_any b c l _ HH.out hl).mono ?_
  rintro e w1 ⟨rfl, hor⟩
  go_wp2_with fail
  go_end0
  exact ⟨rfl, HQ.out ▸ rmore_opt (fun c' l' h => by have := flaggedC_le h; omega) (flaggedC_dv _ _) HDV.out hor⟩

set_option maxRecDepth 100000 in
set_option maxHeartbeats 4000000 in
theorem rmore_17 (b : Nat) (c : Cm) (l : Bs) (w : World) (h : RR b c l 0 w) (hl : l.length ≤ 1000) (hdv : c.dv = .slice none 0 0) (hn : c.name = [38, 38]) :
    Calls Tryz.prog 19 #[.pointer (some ⟨b, 0, none⟩)] w fun x w' => x = .returned (.tuple #[]) ∧ RMore b (moreL c l) w w' := by
  have HQ := Lib.hid (show ofOpt 151 (flaggedC c l) = moreL c l by unfold moreL; rw [hn]; rfl)
  have HH := Lib.hid h
  have HDV := Lib.hid hdv
  have cn := h.c1
  rw [hn] at cn
  have hltb := lt_of_blk h
  clear h hn hdv
  go_enter Tryz.func19, Tryz.ntmps19
  go_wp2_with fail
  refine (rflags_any b c l _ HH.out hl).mono ?_
  rintro e w1 ⟨rfl, hor⟩
  go_wp2_with fail
  go_end0
  exact ⟨rfl, HQ.out ▸ rmore_opt (fun c' l' h => by have := flaggedC_le h; omega) (flaggedC_dv _ _) HDV.out hor⟩

set_option maxRecDepth 100000 in
set_option maxHeartbeats 4000000 in
theorem rmore_18 (b : Nat) (c : Cm) (l : Bs) (w : World) (h : RR b c l 0 w) (hl : l.length ≤ 1000) (hdv : c.dv = .slice none 0 0) (hn : c.name = [126]) :
    Calls Tryz.prog 19 #[.pointer (some ⟨b, 0, none⟩)] w fun x w' => x = .returned (.tuple #[]) ∧ RMore b (moreL c l) w w' := by
  have HQ := Lib.hid (show ofOpt 151 (flaggedC c l) = moreL c l by unfold moreL; rw [hn]; rfl)
  have HH := Lib.hid h
  have HDV := Lib.hid hdv
  have cn := h.c1
  rw [hn] at cn
  have hltb := lt_of_blk h
  clear h hn hdv
  go_enter Tryz.func19, Tryz.ntmps19
  go_wp2_with fail
  refine (rflags_any b c l _ HH.out hl).mono ?_
  rintro e w1 ⟨rfl, hor⟩
  go_wp2_with fail
  go_end0
  exact ⟨rfl, HQ.out ▸ rmore_opt (fun c' l' h => by have := flaggedC_le h; omega) (flaggedC_dv _ _) HDV.out hor⟩

set_option maxRecDepth 100000 in
set_option maxHeartbeats 4000000 in
theorem rmore_19 (b : Nat) (c : Cm) (l : Bs) (w : World) (h : RR b c l 0 w) (hl : l.length ≤ 1000) (hdv : c.dv = .slice none 0 0) (hn : c.name = [103]) :
    Calls Tryz.prog 19 #[.pointer (some ⟨b, 0, none⟩)] w fun x w' => x = .returned (.tuple #[]) ∧ RMore b (moreL c l) w w' := by
  have HQ := Lib.hid (show ofOpt 150 (globalC c l) = moreL c l by unfold moreL; rw [hn]; rfl)
  have HH := Lib.hid h
  have HDV := Lib.hid hdv
  have cn := h.c1
  rw [hn] at cn
  have hltb := lt_of_blk h
  clear h hn hdv
  go_enter Tryz.func19, Tryz.ntmps19
  go_wp2_with fail
  refine (rglobal_any b c l _ HH.out hl).mono ?_
  rintro e w1 ⟨rfl, hor⟩
  go_wp2_with fail
  go_end0
  exact ⟨rfl, HQ.out ▸ rmore_opt (fun c' l' h => by have := globalC_le h; omega) (globalC_dv _ _) HDV.out hor⟩

set_option maxRecDepth 100000 in
set_option maxHeartbeats 4000000 in
theorem rmore_20 (b : Nat) (c : Cm) (l : Bs) (w : World) (h : RR b c l 0 w) (hl : l.length ≤ 1000) (hdv : c.dv = .slice none 0 0) (hn : c.name = [118]) :
    Calls Tryz.prog 19 #[.pointer (some ⟨b, 0, none⟩)] w fun x w' => x = .returned (.tuple #[]) ∧ RMore b (moreL c l) w w' := by
  have HQ := Lib.hid (show ofOpt 150 (globalC c l) = moreL c l by unfold moreL; rw [hn]; rfl)
  have HH := Lib.hid h
  have HDV := Lib.hid hdv
  have cn := h.c1
  rw [hn] at cn
  have hltb := lt_of_blk h
  clear h hn hdv
  go_enter Tryz.func19, Tryz.ntmps19
  go_wp2_with fail
  refine (rglobal_any b c l _ HH.out hl).mono ?_
  rintro e w1 ⟨rfl, hor⟩
  go_wp2_with fail
  go_end0
  exact ⟨rfl, HQ.out ▸ rmore_opt (fun c' l' h => by have := globalC_le h; omega) (globalC_dv _ _) HDV.out hor⟩

set_option maxRecDepth 100000 in
set_option maxHeartbeats 4000000 in
theorem rmore_21 (b : Nat) (c : Cm) (l : Bs) (w : World) (h : RR b c l 0 w) (hl : l.length ≤ 1000) (hdv : c.dv = .slice none 0 0) (hn : c.name = [110, 111, 114, 109]) :
    Calls Tryz.prog 19 #[.pointer (some ⟨b, 0, none⟩)] w fun x w' => x = .returned (.tuple #[]) ∧ RMore b (moreL c l) w w' := by
  have HQ := Lib.hid (show ofOpt 151 (keysC c l) = moreL c l by unfold moreL; rw [hn]; rfl)
  have HH := Lib.hid h
  have HDV := Lib.hid hdv
  have cn := h.c1
  rw [hn] at cn
  have c10 := h.c10
  have f10 := h.fz 10
  have c9 := h.c9
  have f9 := h.fz 9
  have hltb := lt_of_blk h
  clear h hn hdv
  rcases l with _ | ⟨y, t⟩
  · have HB := Lib.hid (show keysC c [] = none from rfl)
    go_enter Tryz.func19, Tryz.ntmps19
    go_wp2_with fail
    refine (wrong_any b c [] 0 151 _ HH.out).mono ?_
    rintro e w3 ⟨rfl, h3, hm3⟩
    rw [if_pos rfl] at h3
    have HH3 := Lib.hid h3
    have c9 := h3.c9
    have f9 := h3.fz 9
    have c10 := h3.c10
    have f10 := h3.fz 10
    go_wp2_with fail
    go_end0
    refine ⟨rfl, ?_⟩
    rw [← HQ.out, HB.out]
    exact ⟨(hm3.set1 9 _).set1 10 _, _, _, by simp, (HH3.out.setArg []).setRest []⟩
  · have hlt : t.length + 1 ≤ 1000 := by simpa using hl
    have hex := ex_tail y t
    have hcall := fun V => ris_s0 y t V
    cases hb : blk (y.toNat : Int) with
    | false =>
      have HB := Lib.hid (show keysC c (y :: t) = some ({ c with arg := y :: t }, []) by unfold keysC; simp only [hb]; rfl)
      rw [hb] at hcall
      clear hb
      go_enter Tryz.func19, Tryz.ntmps19
      go_wp2_with fail
      refine (hcall w).mono ?_
      rintro e w2 ⟨rfl, hw⟩
      obtain rfl : w = w2 := hw.symm
      go_wp2_with fail
      go_end0
      refine ⟨rfl, ?_⟩
      rw [← HQ.out]
      refine rmore_opt (fun c' l' h => by have := keysC_le h; omega) (keysC_dv c _) HDV.out ⟨((Mod.refl _ w).set1 9 _).set1 10 _, ?_⟩
      rw [HB.out]
      exact (HH.out.setArg (y :: t)).setRest []
    | true =>
      rw [hb] at hcall
      rcases t with _ | ⟨z, u⟩
      · have HB := Lib.hid (show keysC c [y] = none by unfold keysC; simp only [hb]; rfl)
        clear hb
        go_enter Tryz.func19, Tryz.ntmps19
        go_wp2_with fail
        refine (hcall w).mono ?_
        rintro e w2 ⟨rfl, hw⟩
        obtain rfl : w = w2 := hw.symm
        go_wp2_with fail
        refine (wrong_any b c [] 0 151 _ (by exact HH.out.setRest [])).mono ?_
        rintro e w3 ⟨rfl, h3, hm3⟩
        rw [if_pos rfl] at h3
        have HH3 := Lib.hid h3
        have c9 := h3.c9
        have f9 := h3.fz 9
        have c10 := h3.c10
        have f10 := h3.fz 10
        go_wp2_with fail
        go_end0
        refine ⟨rfl, ?_⟩
        rw [← HQ.out, HB.out]
        exact ⟨((Mod.trans ((Mod.refl _ w).set1 10 _) hm3).set1 9 _).set1 10 _, _, _, by simp, (HH3.out.setArg []).setRest []⟩
      · have HB := Lib.hid (show keysC c (y :: z :: u) = some ({ c with arg := z :: u }, []) by unfold keysC; simp only [hb]; rfl)
        clear hb
        have hlu : u.length + 1 + 1 ≤ 1000 := by simpa using hlt
        have hex2 : (⟨(y :: z :: u).toArray⟩ : ByteArray).extract 1 (u.length + 1 + 1) = ⟨(z :: u).toArray⟩ := ex_tail y (z :: u)
        clear hex
        go_enter Tryz.func19, Tryz.ntmps19
        go_wp2_with fail
        refine (hcall w).mono ?_
        rintro e w2 ⟨rfl, hw⟩
        obtain rfl : w = w2 := hw.symm
        go_wp2_with fail
        go_end0
        refine ⟨rfl, ?_⟩
        rw [← HQ.out]
        refine rmore_opt (fun c' l' h => by have := keysC_le h; omega) (keysC_dv c _) HDV.out ⟨(((Mod.refl _ w).set1 10 _).set1 9 _).set1 10 _, ?_⟩
        rw [HB.out]
        exact ((HH.out.setRest (z :: u)).setArg (z :: u)).setRest []

set_option maxRecDepth 100000 in
set_option maxHeartbeats 4000000 in
theorem rmore_22 (b : Nat) (c : Cm) (l : Bs) (w : World) (h : RR b c l 0 w) (hl : l.length ≤ 1000) (hdv : c.dv = .slice none 0 0) (hn : c.name = [114, 101, 100]) :
    Calls Tryz.prog 19 #[.pointer (some ⟨b, 0, none⟩)] w fun x w' => x = .returned (.tuple #[]) ∧ RMore b (moreL c l) w w' := by
  have HQ := Lib.hid (show .ok (c, [], l) = moreL c l by unfold moreL; rw [hn]; rfl)
  have HH := Lib.hid h
  have HDV := Lib.hid hdv
  have cn := h.c1
  rw [hn] at cn
  have hltb := lt_of_blk h
  clear h hn hdv
  go_enter Tryz.func19, Tryz.ntmps19
  go_wp2_with fail
  go_end0
  exact ⟨rfl, HQ.out ▸ rmore_ok hl HDV.out HH.out (Mod.refl _ _)⟩

set_option maxRecDepth 100000 in
set_option maxHeartbeats 4000000 in
theorem rmore_23 (b : Nat) (c : Cm) (l : Bs) (w : World) (h : RR b c l 0 w) (hl : l.length ≤ 1000) (hdv : c.dv = .slice none 0 0) (hn : c.name = []) :
    Calls Tryz.prog 19 #[.pointer (some ⟨b, 0, none⟩)] w fun x w' => x = .returned (.tuple #[]) ∧ RMore b (moreL c l) w w' := by
  have HQ := Lib.hid (show .ok (c, [], l) = moreL c l by unfold moreL; rw [hn]; rfl)
  have HH := Lib.hid h
  have HDV := Lib.hid hdv
  have cn := h.c1
  rw [hn] at cn
  have hltb := lt_of_blk h
  clear h hn hdv
  go_enter Tryz.func19, Tryz.ntmps19
  go_wp2_with fail
  go_end0
  exact ⟨rfl, HQ.out ▸ rmore_ok hl HDV.out HH.out (Mod.refl _ _)⟩

theorem rmore_any (b : Nat) (c : Cm) (l : Bs) (w : World) (h : RR b c l 0 w) (hl : l.length ≤ 1000) (hdv : c.dv = .slice none 0 0) (hn : c.name ∈ names) :
    Calls Tryz.prog 19 #[.pointer (some ⟨b, 0, none⟩)] w fun x w' => x = .returned (.tuple #[]) ∧ RMore b (moreL c l) w w' := by
  simp only [names, List.mem_cons, List.not_mem_nil, or_false] at hn
  rcases hn with h0 | h0 | h0 | h0 | h0 | h0 | h0 | h0 | h0 | h0 | h0 | h0 | h0 | h0 | h0 | h0 | h0 | h0 | h0 | h0 | h0 | h0 | h0 | h0
  · exact rmore_0 b c l w h hl hdv h0
  · exact rmore_1 b c l w h hl hdv h0
  · exact rmore_2 b c l w h hl hdv h0
  · exact rmore_3 b c l w h hl hdv h0
  · exact rmore_4 b c l w h hl hdv h0
  · exact rmore_5 b c l w h hl hdv h0
  · exact rmore_6 b c l w h hl hdv h0
  · exact rmore_7 b c l w h hl hdv h0
  · exact rmore_8 b c l w h hl hdv h0
  · exact rmore_9 b c l w h hl hdv h0
  · exact rmore_10 b c l w h hl hdv h0
  · exact rmore_11 b c l w h hl hdv h0
  · exact rmore_12 b c l w h hl hdv h0
  · exact rmore_13 b c l w h hl hdv h0
  · exact rmore_14 b c l w h hl hdv h0
  · exact rmore_15 b c l w h hl hdv h0
  · exact rmore_16 b c l w h hl hdv h0
  · exact rmore_17 b c l w h hl hdv h0
  · exact rmore_18 b c l w h hl hdv h0
  · exact rmore_19 b c l w h hl hdv h0
  · exact rmore_20 b c l w h hl hdv h0
  · exact rmore_21 b c l w h hl hdv h0
  · exact rmore_22 b c l w h hl hdv h0
  · exact rmore_23 b c l w h hl hdv h0
end Go.Proofs.YthajagmccaaanaaGreatDoor
