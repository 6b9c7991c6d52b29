/- emendatorref15.Reader: a command that is read, what is left, the first error. -/
import Derived.Test.YthajagmccaaanaaGreatDoorRParse
import Derived.Test.YthajagmccaaanaaGreatDoorSame
namespace Go.Proofs.YthajagmccaaanaaGreatDoor
open Go.RowKit

/-- A reader in block b. -/
def RR (b : Nat) (c : Cm) (l : Bs) (k : Int) (w : World) : Prop :=
  w.heap[b]? = some (.cells #[c.rv, .string ⟨c.name.toArray⟩, .bool c.bang, .int .u8 c.reg.toNat, .int .i64 c.count, c.dv, .string ⟨c.pat.toArray⟩, .string ⟨c.rep.toArray⟩, .string ⟨c.flags.toArray⟩, .string ⟨c.arg.toArray⟩, .string ⟨l.toArray⟩, .int .i64 k] 48 (0, 0))

section
variable {b : Nat} {c : Cm} {l : Bs} {k : Int} {w : World}
theorem RR.c0 (h : RR b c l k w) : w.cell? ⟨b, 0, none⟩ = some c.rv := by rw [Lib.cell_of_heap h]; rfl
theorem RR.c1 (h : RR b c l k w) : w.cell? ⟨b, 1, none⟩ = some (.string ⟨c.name.toArray⟩) := by rw [Lib.cell_of_heap h]; rfl
theorem RR.c2 (h : RR b c l k w) : w.cell? ⟨b, 2, none⟩ = some (.bool c.bang) := by rw [Lib.cell_of_heap h]; rfl
theorem RR.c3 (h : RR b c l k w) : w.cell? ⟨b, 3, none⟩ = some (.int .u8 c.reg.toNat) := by rw [Lib.cell_of_heap h]; rfl
theorem RR.c4 (h : RR b c l k w) : w.cell? ⟨b, 4, none⟩ = some (.int .i64 c.count) := by rw [Lib.cell_of_heap h]; rfl
theorem RR.c5 (h : RR b c l k w) : w.cell? ⟨b, 5, none⟩ = some c.dv := by rw [Lib.cell_of_heap h]; rfl
theorem RR.c6 (h : RR b c l k w) : w.cell? ⟨b, 6, none⟩ = some (.string ⟨c.pat.toArray⟩) := by rw [Lib.cell_of_heap h]; rfl
theorem RR.c7 (h : RR b c l k w) : w.cell? ⟨b, 7, none⟩ = some (.string ⟨c.rep.toArray⟩) := by rw [Lib.cell_of_heap h]; rfl
theorem RR.c8 (h : RR b c l k w) : w.cell? ⟨b, 8, none⟩ = some (.string ⟨c.flags.toArray⟩) := by rw [Lib.cell_of_heap h]; rfl
theorem RR.c9 (h : RR b c l k w) : w.cell? ⟨b, 9, none⟩ = some (.string ⟨c.arg.toArray⟩) := by rw [Lib.cell_of_heap h]; rfl
theorem RR.c10 (h : RR b c l k w) : w.cell? ⟨b, 10, none⟩ = some (.string ⟨l.toArray⟩) := by rw [Lib.cell_of_heap h]; rfl
theorem RR.c11 (h : RR b c l k w) : w.cell? ⟨b, 11, none⟩ = some (.int .i64 k) := by rw [Lib.cell_of_heap h]; rfl
theorem RR.fz (h : RR b c l k w) (j : Nat) : w.frozen? ⟨b, j, none⟩ = false := Lib.frozen_of_heap h j
theorem RR.mod {S : Nat → Prop} {w' : World} (h : RR b c l k w) (hm : Mod S w w') (hs : ¬ S b) : RR b c l k w' := hm.get h hs
theorem RR.setName (h : RR b c l k w) (x : Bs) : RR b { c with name := x } l k (w.setCell ⟨b, 1, none⟩ (.string ⟨x.toArray⟩)) := by unfold RR at h ⊢; rw [blk_setCell h]; rfl
theorem RR.setBang (h : RR b c l k w) (x : Bool) : RR b { c with bang := x } l k (w.setCell ⟨b, 2, none⟩ (.bool x)) := by unfold RR at h ⊢; rw [blk_setCell h]; rfl
theorem RR.setReg (h : RR b c l k w) (x : UInt8) : RR b { c with reg := x } l k (w.setCell ⟨b, 3, none⟩ (.int .u8 x.toNat)) := by unfold RR at h ⊢; rw [blk_setCell h]; rfl
theorem RR.setCount (h : RR b c l k w) (x : Int) : RR b { c with count := x } l k (w.setCell ⟨b, 4, none⟩ (.int .i64 x)) := by unfold RR at h ⊢; rw [blk_setCell h]; rfl
theorem RR.setDv (h : RR b c l k w) (x : Value) : RR b { c with dv := x } l k (w.setCell ⟨b, 5, none⟩ x) := by unfold RR at h ⊢; rw [blk_setCell h]; rfl
theorem RR.setPat (h : RR b c l k w) (x : Bs) : RR b { c with pat := x } l k (w.setCell ⟨b, 6, none⟩ (.string ⟨x.toArray⟩)) := by unfold RR at h ⊢; rw [blk_setCell h]; rfl
theorem RR.setRep (h : RR b c l k w) (x : Bs) : RR b { c with rep := x } l k (w.setCell ⟨b, 7, none⟩ (.string ⟨x.toArray⟩)) := by unfold RR at h ⊢; rw [blk_setCell h]; rfl
theorem RR.setFlags (h : RR b c l k w) (x : Bs) : RR b { c with flags := x } l k (w.setCell ⟨b, 8, none⟩ (.string ⟨x.toArray⟩)) := by unfold RR at h ⊢; rw [blk_setCell h]; rfl
theorem RR.setArg (h : RR b c l k w) (x : Bs) : RR b { c with arg := x } l k (w.setCell ⟨b, 9, none⟩ (.string ⟨x.toArray⟩)) := by unfold RR at h ⊢; rw [blk_setCell h]; rfl
theorem RR.setRest (h : RR b c l k w) (x : Bs) : RR b c x k (w.setCell ⟨b, 10, none⟩ (.string ⟨x.toArray⟩)) := by unfold RR at h ⊢; rw [blk_setCell h]; rfl
theorem RR.setErr (h : RR b c l k w) (x : Int) : RR b c l x (w.setCell ⟨b, 11, none⟩ (.int .i64 x)) := by unfold RR at h ⊢; rw [blk_setCell h]; rfl
end

set_option maxHeartbeats 1000000 in
theorem wrong_any (b : Nat) (c : Cm) (l : Bs) (k e : Int) (w : World) (h : RR b c l k w) :
    Calls Tryz.prog 21 #[.pointer (some ⟨b, 0, none⟩), .int .i64 e] w fun x w' => x = .returned (.tuple #[]) ∧ RR b c l (if k = 0 then e else k) w' ∧ Mod (· = b) w w' := by
  have c11 := h.c11
  have f11 := h.fz 11
  have HH := Lib.hid h
  by_cases h0 : k = 0
  · subst h0
    go_enter Tryz.func21, Tryz.ntmps21
    go_wp2_with fail
    go_end0
    exact ⟨rfl, HH.out.setErr e, (Mod.refl _ w).set1 11 _⟩
  · have e0 : (k == 0) = false := by rw [beq_eq_false_iff_ne]; exact h0
    rw [if_neg h0]
    go_enter Tryz.func21, Tryz.ntmps21
    go_wp2_with fail
    go_end0
    exact ⟨rfl, HH.out, Mod.refl _ w⟩

theorem ex_tail (x : UInt8) (t : Bs) : (⟨(x :: t).toArray⟩ : ByteArray).extract 1 (t.length + 1) = ⟨t.toArray⟩ := by
  have := ex_drop (x :: t) 1
  rw [List.length_cons] at this
  exact this
theorem ris_s0 (x : UInt8) (t : Bs) (w : World) : Calls Tryz.prog 41 #[.int .u8 115, .int .u8 ((⟨(x :: t).toArray⟩ : ByteArray)[0]'(head0 x t)).toNat] w fun e w' => e = .returned (.bool (blk (x.toNat : Int))) ∧ w' = w := ris_s8 x w
theorem ris_d0 (x : UInt8) (t : Bs) (w : World) : Calls Tryz.prog 41 #[.int .u8 100, .int .u8 ((⟨(x :: t).toArray⟩ : ByteArray)[0]'(head0 x t)).toNat] w fun e w' => e = .returned (.bool (isDig x)) ∧ w' = w := ris_d8 x w
theorem ris_a0 (x : UInt8) (t : Bs) (w : World) : Calls Tryz.prog 41 #[.int .u8 97, .int .u8 ((⟨(x :: t).toArray⟩ : ByteArray)[0]'(head0 x t)).toNat] w fun e w' => e = .returned (.bool (ltr (x.toNat : Int))) ∧ w' = w := ris_a _ (by omega) (by have := x.toNat_lt; show (x.toNat : Int) ≤ 255; omega) w
theorem blanks_cons_yes {y : UInt8} {t : Bs} (hb : blk (y.toNat : Int) = true) : blanks (y :: t) = blanks t := by
  unfold blanks Lib.trimLeftS
  rw [List.dropWhile_cons, if_pos]
  simp only [blk, decide_eq_true_eq] at hb
  simp only [List.contains_cons, List.contains_nil, Bool.or_false, Bool.or_eq_true, beq_iff_eq]
  rcases hb with hb | hb
  · exact .inl (UInt8.toNat_inj.1 (by show _ = 32; omega))
  · exact .inr (UInt8.toNat_inj.1 (by show _ = 9; omega))
theorem blanks_cons_no {y : UInt8} {t : Bs} (hb : blk (y.toNat : Int) = false) : blanks (y :: t) = y :: t := by
  simp only [blk, decide_eq_false_iff_not, not_or] at hb
  unfold blanks Lib.trimLeftS
  rw [List.dropWhile_cons, if_neg]
  simp only [List.contains_cons, List.contains_nil, Bool.or_false, Bool.or_eq_true, beq_iff_eq, not_or]
  exact ⟨fun e => hb.1 (by rw [e]; rfl), fun e => hb.2 (by rw [e]; rfl)⟩

set_option maxRecDepth 100000 in
set_option maxHeartbeats 2000000 in
theorem rrblanks_any (b : Nat) (c : Cm) (l : Bs) (k : Int) (w : World) (h : RR b c l k w) (hl : l.length ≤ 1000) :
    Calls Tryz.prog 20 #[.pointer (some ⟨b, 0, none⟩)] w fun x w' => x = .returned (.tuple #[]) ∧ RR b c (blanks l) k w' ∧ Mod (· = b) w w' := by
  go_enter Tryz.func20, Tryz.ntmps20
  go_wp2_with fail
  go_loopg [] (l.length + 1) (fun g wr => ∃ m : Bs, m.length < g ∧ m.length ≤ 1000 ∧ blanks m = blanks l ∧ RR b c m k wr ∧ Mod (· = b) w wr)
  case atStart => exact ⟨l, by omega, hl, rfl, h, Mod.refl _ _⟩
  case round =>
    obtain ⟨m, hg, hm1, hbl, hr, hm⟩ := hrel
    have c10 := hr.c10
    have f10 := hr.fz 10
    have hltb := lt_of_blk hr
    have HRR := Lib.hid hr
    have HB := Lib.hid hbl
    clear hbl
    rcases m with _ | ⟨y, t⟩
    · go_wp2_with fail
      go_end0
      rw [← HB.out]
      exact ⟨rfl, HRR.out, hm⟩
    · have hlt : t.length + 1 ≤ 1000 := by simpa using hm1
      have hlg : t.length + 1 < gk := by simpa using hg
      have hex := ex_tail y t
      cases hb : blk (y.toNat : Int) with
      | true =>
        have hcall := fun V => ris_s0 y t V
        rw [hb] at hcall
        have HT := Lib.hid ((blanks_cons_yes hb).symm.trans HB.out)
        clear hb
        go_wp2_with fail
        refine (hcall wr).mono ?_
        rintro e w2 ⟨rfl, hw⟩
        obtain rfl : wr = w2 := hw.symm
        go_wp2_with fail
        go_roundg (gk - 1)
        case measure => omega
        case rel => exact ⟨t, by omega, by omega, HT.out, HRR.out.setRest t, hm.set1 10 _⟩
      | false =>
        have hcall := fun V => ris_s0 y t V
        rw [hb] at hcall
        have HT := Lib.hid ((blanks_cons_no hb).symm.trans HB.out)
        clear hb
        go_wp2_with fail
        refine (hcall wr).mono ?_
        rintro e w2 ⟨rfl, hw⟩
        obtain rfl : wr = w2 := hw.symm
        go_wp2_with fail
        go_end0
        rw [← HT.out]
        exact ⟨rfl, HRR.out, hm⟩

/-- What a call that may fail leaves. -/
def ROr (b : Nat) (r : Option (Cm × Bs)) (n : Int) (w w' : World) : Prop :=
  Mod (· = b) w w' ∧ match r with
  | none => ∃ c l, l.length ≤ 1000 ∧ RR b c l n w'
  | some (c, l) => RR b c l 0 w'

set_option maxRecDepth 100000 in
set_option maxHeartbeats 2000000 in
theorem rregister_any (b : Nat) (c : Cm) (l : Bs) (w : World) (h : RR b c l 0 w) (hl : l.length ≤ 1000) :
    Calls Tryz.prog 48 #[.pointer (some ⟨b, 0, none⟩)] w fun x w' => x = .returned (.tuple #[]) ∧ RR b (registerC c l).1 (registerC c l).2 0 w' ∧ Mod (· = b) w w' := by
  have hbl := blanks_le l
  cases hb : blanks l with
  | nil =>
    have hreg : registerC c l = (c, []) := by unfold registerC; rw [hb]
    rw [hreg]
    go_enter Tryz.func48, Tryz.ntmps48
    go_wp2_with fail
    refine (rrblanks_any b c l 0 w h hl).mono ?_
    rintro e w1 ⟨rfl, h1, hm1⟩
    rw [hb] at h1
    have c10 := h1.c10
    have HH := Lib.hid h1
    clear hb hbl hreg
    go_wp2_with fail
    go_end0
    exact ⟨rfl, HH.out, hm1⟩
  | cons y t =>
    cases hd : isDig y with
    | true =>
      have hreg : registerC c l = (c, y :: t) := by unfold registerC; rw [hb]; simp only [hd, if_true]
      rw [hreg]
      go_enter Tryz.func48, Tryz.ntmps48
      go_wp2_with fail
      refine (rrblanks_any b c l 0 w h hl).mono ?_
      rintro e w1 ⟨rfl, h1, hm1⟩
      rw [hb] at h1
      have c10 := h1.c10
      have hltb := lt_of_blk h1
      have HH := Lib.hid h1
      have hcall := fun V => ris_d0 y t V
      rw [hd] at hcall
      clear hb hbl hreg hd
      go_wp2_with fail
      refine (hcall w1).mono ?_
      rintro e w2 ⟨rfl, hw⟩
      obtain rfl : w1 = w2 := hw.symm
      go_wp2_with fail
      go_end0
      exact ⟨rfl, HH.out, hm1⟩
    | false =>
      have hreg : registerC c l = ({ c with reg := y }, t) := by unfold registerC; rw [hb]; simp only [hd]; rfl
      rw [hreg]
      go_enter Tryz.func48, Tryz.ntmps48
      go_wp2_with fail
      refine (rrblanks_any b c l 0 w h hl).mono ?_
      rintro e w1 ⟨rfl, h1, hm1⟩
      rw [hb] at h1
      have c10 := h1.c10
      have f10 := h1.fz 10
      have c3 := h1.c3
      have f3 := h1.fz 3
      have hltb := lt_of_blk h1
      have HH := Lib.hid h1
      have hlt : t.length + 1 ≤ 1000 := by rw [hb] at hbl; simp at hbl; omega
      have hex := ex_tail y t
      have hcall := fun V => ris_d0 y t V
      rw [hd] at hcall
      clear hb hbl hreg hd
      go_wp2_with fail
      refine (hcall w1).mono ?_
      rintro e w2 ⟨rfl, hw⟩
      obtain rfl : w1 = w2 := hw.symm
      go_wp2_with fail
      go_end0
      exact ⟨rfl, (HH.out.setReg y).setRest t, (hm1.set1 3 _).set1 10 _⟩
end Go.Proofs.YthajagmccaaanaaGreatDoor
