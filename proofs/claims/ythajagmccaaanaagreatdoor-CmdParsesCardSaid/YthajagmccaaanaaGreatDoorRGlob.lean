/- emendatorref15.Reader: sub, global, dest. -/
import Derived.Test.YthajagmccaaanaaGreatDoorRNum
namespace Go.Proofs.YthajagmccaaanaaGreatDoor
open Go.RowKit

theorem head_u8 (y : UInt8) (t : Bs) : ((⟨(y :: t).toArray⟩ : ByteArray)[0]'(head0 y t)) = y := rfl
theorem signC_some {l : Bs} {x : UInt8} {t : Bs} (h : signC l = some (x, t)) : blanks l = x :: t := by
  unfold signC at h
  split at h
  · cases h
  · rename_i y u hb
    split at h
    · cases h; exact hb
    · cases h

theorem rpart_as (b : Nat) (c : Cm) (l : Bs) (x : UInt8) (q1 : Bs) (q2 : Nat) (hq : splitL x l = (q1, q2)) (w : World) (h : RR b c l 0 w) (hl : l.length ≤ 1000) :
    Calls Tryz.prog 73 #[.pointer (some ⟨b, 0, none⟩), .int .u8 (x.toNat : Int)] w fun e w' => e = .returned (.string ⟨q1.toArray⟩) ∧ RR b c (l.drop q2) 0 w' ∧ Mod (· = b) w w' := by
  have := rpart_any b c l x w h hl
  rw [hq] at this
  exact this

set_option maxRecDepth 100000 in
set_option maxHeartbeats 4000000 in
theorem rsub_any (b : Nat) (c : Cm) (l : Bs) (w : World) (h : RR b c l 0 w) (hl : l.length ≤ 1000) :
    Calls Tryz.prog 51 #[.pointer (some ⟨b, 0, none⟩)] w fun x w' => x = .returned (.tuple #[]) ∧ ROr b (subC c l) 151 w w' := by
  have hbl := blanks_le l
  have hsg := rsign_any b c l w h hl
  cases hs : signC l with
  | none =>
    rw [hs] at hsg
    have hq : subC c l = flaggedC c (blanks l) := by unfold subC; rw [hs]
    rw [hq]
    clear hq hs
    go_enter Tryz.func51, Tryz.ntmps51
    go_wp2_with fail
    refine hsg.mono ?_
    rintro e w1 ⟨rfl, h1, hm1⟩
    have HH := Lib.hid h1
    go_wp2_with fail
    refine (rflags_any b c (blanks l) _ HH.out (by omega)).mono ?_
    rintro e w3 ⟨rfl, hm3, hor⟩
    go_wp2_with fail
    go_end0
    exact ⟨rfl, Mod.trans hm1 hm3, hor⟩
  | some p =>
    obtain ⟨y, t⟩ := p
    have hbt := signC_some hs
    rw [hs] at hsg
    obtain ⟨q1, q2, hq1⟩ : ∃ q1 q2, splitL y t = (q1, q2) := ⟨_, _, rfl⟩
    obtain ⟨r1, r2, hr1⟩ : ∃ r1 r2, splitL y (t.drop q2) = (r1, r2) := ⟨_, _, rfl⟩
    have hq : subC c l = flaggedC { c with pat := q1, arg := [61], rep := r1 } ((t.drop q2).drop r2) := by unfold subC; rw [hs]; simp only [hq1, hr1]
    have HQ1 := Lib.hid hq1
    have HR1 := Lib.hid hr1
    clear hq1 hr1
    rw [hq]
    rw [hbt] at hsg hbl
    have hlt : t.length + 1 ≤ 1000 := by simp at hbl; omega
    have hex := ex_tail y t
    clear hq hs hbt hbl
    go_enter Tryz.func51, Tryz.ntmps51
    go_wp2_with fail
    refine hsg.mono ?_
    rintro e w1 ⟨rfl, h1, hm1⟩
    have c10 := h1.c10
    have f10 := h1.fz 10
    have hltb := lt_of_blk h1
    have HH := Lib.hid h1
    go_wp2_with fail
    refine (rpart_as b c t y q1 q2 HQ1.out _ (by exact HH.out.setRest t) (by omega)).mono ?_
    rintro e w2 ⟨rfl, h2, hm2⟩
    have hm2' : Mod (· = b) w w2 := Mod.trans (hm1.set1 10 _) hm2
    have c6 := h2.c6
    have f6 := h2.fz 6
    have HH2 := Lib.hid h2
    clear hm2 hm1 h1 HH c10 f10
    go_wp2_with fail
    refine (rpart_as b { c with pat := q1 } (t.drop q2) y r1 r2 HR1.out _ (by exact HH2.out.setPat q1) (by simp; omega)).mono ?_
    rintro e w3 ⟨rfl, h3, hm3⟩
    have hm3' : Mod (· = b) w w3 := Mod.trans (hm2'.set1 6 _) hm3
    have c7 := h3.c7
    have f7 := h3.fz 7
    have c9 := h3.c9
    have f9 := h3.fz 9
    have HH3 := Lib.hid h3
    clear hm3 hm2' h2 HH2 c6 f6
    go_wp2_with fail
    refine (rflags_any b { c with pat := q1, rep := r1, arg := [61] } ((t.drop q2).drop r2) _ (by exact (HH3.out.setRep r1).setArg [61]) (by simp; omega)).mono ?_
    rintro e w4 ⟨rfl, hm4, hor⟩
    go_wp2_with fail
    go_end0
    exact ⟨rfl, Mod.trans ((hm3'.set1 7 _).set1 9 _) hm4, hor⟩

def argL : Bs → Bs
  | [] => [112]
  | y :: r => y :: r
set_option maxRecDepth 100000 in
set_option maxHeartbeats 4000000 in
theorem rglobal_any (b : Nat) (c : Cm) (l : Bs) (w : World) (h : RR b c l 0 w) (hl : l.length ≤ 1000) :
    Calls Tryz.prog 53 #[.pointer (some ⟨b, 0, none⟩)] w fun x w' => x = .returned (.tuple #[]) ∧ ROr b (globalC c l) 150 w w' := by
  have hbl := blanks_le l
  have hsg := rsign_any b c l w h hl
  cases hs : signC l with
  | none =>
    rw [hs] at hsg
    have hq : globalC c l = none := by unfold globalC; rw [hs]
    rw [hq]
    clear hq hs
    go_enter Tryz.func53, Tryz.ntmps53
    go_wp2_with fail
    refine hsg.mono ?_
    rintro e w1 ⟨rfl, h1, hm1⟩
    have HH := Lib.hid h1
    go_wp2_with fail
    refine (wrong_any b c (blanks l) 0 150 _ HH.out).mono ?_
    rintro e w3 ⟨rfl, h3, hm3⟩
    rw [if_pos rfl] at h3
    have HH3 := Lib.hid h3
    go_wp2_with fail
    refine bodyPost_ret (results_none rfl _ _ _) rfl ?_
    exact ⟨rfl, Mod.trans hm1 hm3, _, _, by omega, HH3.out⟩
  | some p =>
    obtain ⟨y, t⟩ := p
    have hbt := signC_some hs
    rw [hs] at hsg
    obtain ⟨q1, q2, hq1⟩ : ∃ q1 q2, splitL y t = (q1, q2) := ⟨_, _, rfl⟩
    obtain ⟨d, hd⟩ : ∃ d, t.drop q2 = d := ⟨_, rfl⟩
    have hq : globalC c l = some ({ c with pat := q1, arg := argL d }, []) := by unfold globalC; rw [hs]; simp only [hq1, hd]; cases d <;> rfl
    rw [hbt] at hsg hbl
    have hlt : t.length + 1 ≤ 1000 := by simp at hbl; omega
    have hex := ex_tail y t
    have HQ1 := Lib.hid hq1
    have HD := Lib.hid hd
    have HG := Lib.hid hq
    clear hq hs hbt hbl hq1 hd
    go_enter Tryz.func53, Tryz.ntmps53
    go_wp2_with fail
    refine hsg.mono ?_
    rintro e w1 ⟨rfl, h1, hm1⟩
    have c10 := h1.c10
    have f10 := h1.fz 10
    have hltb := lt_of_blk h1
    have HH := Lib.hid h1
    go_wp2_with fail
    refine (rpart_as b c t y q1 q2 HQ1.out _ (by exact HH.out.setRest t) (by omega)).mono ?_
    rintro e w2 ⟨rfl, h2, hm2⟩
    have hm2' : Mod (· = b) w w2 := Mod.trans (hm1.set1 10 _) hm2
    rw [HD.out] at h2
    have c6 := h2.c6
    have f6 := h2.fz 6
    have c9 := h2.c9
    have f9 := h2.fz 9
    have c10 := h2.c10
    have f10 := h2.fz 10
    have HH2 := Lib.hid h2
    clear hm2 hm1 h1 HH
    rcases d with _ | ⟨z, u⟩
    · go_wp2_with fail
      go_end0
      refine ⟨rfl, (((hm2'.set1 6 _).set1 9 _).set1 9 _).set1 10 _, ?_⟩
      rw [HG.out]
      exact (((HH2.out.setPat q1).setArg []).setArg [112]).setRest []
    · go_wp2_with fail
      go_end0
      refine ⟨rfl, ((hm2'.set1 6 _).set1 9 _).set1 10 _, ?_⟩
      rw [HG.out]
      exact ((HH2.out.setPat q1).setArg (z :: u)).setRest []

/-- What dest leaves. -/
def RDest (b : Nat) (c : Cm) (l : Bs) (w w' : World) : Prop :=
  Mod (· = b) w w' ∧ match rangeL l with
  | none => ∃ c l, l.length ≤ 1000 ∧ RR b c l 141 w'
  | some (ads, r) => if ads.length = 1 then ∃ p n, r.length ≤ 1000 ∧ RR b { c with dv := .slice p 1 n } r 0 w' ∧ AdsV w.heap.size (.slice p 1 n) ads w' else ∃ c l, l.length ≤ 1000 ∧ RR b c l 141 w'
set_option maxRecDepth 100000 in
set_option maxHeartbeats 4000000 in
theorem rdest_any (b : Nat) (c : Cm) (l : Bs) (w : World) (h : RR b c l 0 w) (hl : l.length ≤ 1000) :
    Calls Tryz.prog 50 #[.pointer (some ⟨b, 0, none⟩)] w fun x w' => x = .returned (.tuple #[]) ∧ RDest b c l w w' := by
  have c10 := h.c10
  have hltb := lt_of_blk h
  have HH := Lib.hid h
  have hsp := rparse_any ⟨l.toArray⟩ w (by simp [ByteArray.size]; omega)
  go_enter Tryz.func50, Tryz.ntmps50
  go_wp2_with fail
  refine hsp.mono ?_
  rintro e w1 ⟨hb1, hp⟩
  have h1 : RR b c l 0 w1 := HH.out.mod (Mod.of_below (S := fun _ => False) hb1) (fun c => c)
  have HH1 := Lib.hid h1
  have hm1 : Mod (· = b) w w1 := Mod.of_below hb1
  rw [show (⟨l.toArray⟩ : ByteArray).data.toList = l from rfl] at hp
  cases hr : rangeL l with
  | none =>
    rw [hr] at hp
    obtain rfl := hp
    have HR := Lib.hid hr
    clear hr
    go_wp2_with fail
    refine (wrong_any b c l 0 141 _ HH1.out).mono ?_
    rintro e w3 ⟨rfl, h3, hm3⟩
    rw [if_pos rfl] at h3
    have HH3 := Lib.hid h3
    go_wp2_with fail
    refine bodyPost_ret (results_none rfl _ _ _) rfl ?_
    refine ⟨rfl, Mod.trans hm1 hm3, ?_⟩
    rw [HR.out]
    exact ⟨_, _, hl, HH3.out⟩
  | some p =>
    obtain ⟨ads, r⟩ := p
    rw [hr] at hp
    obtain ⟨v, rfl, hv, k, hk, hrk⟩ := hp
    obtain ⟨p, n, rfl⟩ := hv.shape
    have hk' : k ≤ l.length := by simpa [ByteArray.size] using hk
    have HR := Lib.hid hr
    have HK := Lib.hid hrk
    clear hr hrk hk
    by_cases h1l : ads.length = 1
    · have HL := Lib.hid h1l
      rw [h1l] at hv ⊢
      have hvL := Lib.hid hv
      have c5 := h1.c5
      have f5 := h1.fz 5
      have c10 := h1.c10
      have f10 := h1.fz 10
      clear h1l hv
      have hrl : (⟨l.toArray⟩ : ByteArray).size - r.length = k := by
        rw [HK.out]
        simp [ByteArray.size]
        omega
      rw [hrl]
      have hex := ex_drop l k
      clear hrl
      go_wp2_with fail
      go_end0
      refine ⟨rfl, (hm1.set1 5 _).set1 10 _, ?_⟩
      rw [HR.out]
      simp only [HL.out, if_true]
      refine ⟨p, n, by rw [HK.out]; simp; omega, ?_, ?_⟩
      · rw [HK.out]
        exact (HH1.out.setDv _).setRest _
      · exact hvL.out.mod (((Mod.refl (· = b) w1).set1 5 _).set1 10 _) (fun j hj c => by omega)
    · have e1 : ((ads.length : Int) != 1) = true := by rw [bne_iff_ne]; omega
      have HL := Lib.hid h1l
      clear h1l
      go_wp2_with fail
      refine (wrong_any b c l 0 141 _ HH1.out).mono ?_
      rintro e w3 ⟨rfl, h3, hm3⟩
      rw [if_pos rfl] at h3
      have HH3 := Lib.hid h3
      go_wp2_with fail
      refine bodyPost_ret (results_none rfl _ _ _) rfl ?_
      refine ⟨rfl, Mod.trans hm1 hm3, ?_⟩
      rw [HR.out]
      simp only [if_neg HL.out]
      exact ⟨_, _, hl, HH3.out⟩
end Go.Proofs.YthajagmccaaanaaGreatDoor
