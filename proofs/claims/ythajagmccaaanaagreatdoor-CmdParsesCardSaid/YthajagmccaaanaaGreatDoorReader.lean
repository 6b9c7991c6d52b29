/- cmd.reader: a command that is read, and what is left. -/
import Derived.Test.YthajagmccaaanaaGreatDoorParseA
namespace Go.Proofs.YthajagmccaaanaaGreatDoor
open Go.RowKit

/-- A command as it lies in memory: its two lists as values. -/
structure Cm where
  rv : Value
  name : Bs
  bang : Bool
  reg : UInt8
  count : Int
  dv : Value
  pat : Bs
  rep : Bs
  flags : Bs
  arg : Bs

/-- A reader in block b. -/
def RD (b : Nat) (c : Cm) (l : Bs) (w : World) : Prop :=
  w.heap[b]? = some (.cells #[c.rv, .string ⟨c.name.toArray⟩, .bool c.bang, .int .u8 c.reg.toNat, .int .i64 c.count, c.dv, .string ⟨c.pat.toArray⟩, .string ⟨c.rep.toArray⟩, .string ⟨c.flags.toArray⟩, .string ⟨c.arg.toArray⟩, .string ⟨l.toArray⟩] 40 (0, 0))

section
variable {b : Nat} {c : Cm} {l : Bs} {w : World}
theorem RD.c1 (h : RD b c l w) : w.cell? ⟨b, 1, none⟩ = some (.string ⟨c.name.toArray⟩) := by rw [Lib.cell_of_heap h]; rfl
theorem RD.c4 (h : RD b c l w) : w.cell? ⟨b, 4, none⟩ = some (.int .i64 c.count) := by rw [Lib.cell_of_heap h]; rfl
theorem RD.c0 (h : RD b c l w) : w.cell? ⟨b, 0, none⟩ = some c.rv := by rw [Lib.cell_of_heap h]; rfl
theorem RD.c2 (h : RD b c l w) : w.cell? ⟨b, 2, none⟩ = some (.bool c.bang) := by rw [Lib.cell_of_heap h]; rfl
theorem RD.c3 (h : RD b c l w) : w.cell? ⟨b, 3, none⟩ = some (.int .u8 c.reg.toNat) := by rw [Lib.cell_of_heap h]; rfl
theorem RD.c5 (h : RD b c l w) : w.cell? ⟨b, 5, none⟩ = some c.dv := by rw [Lib.cell_of_heap h]; rfl
theorem RD.c6 (h : RD b c l w) : w.cell? ⟨b, 6, none⟩ = some (.string ⟨c.pat.toArray⟩) := by rw [Lib.cell_of_heap h]; rfl
theorem RD.c7 (h : RD b c l w) : w.cell? ⟨b, 7, none⟩ = some (.string ⟨c.rep.toArray⟩) := by rw [Lib.cell_of_heap h]; rfl
theorem RD.c8 (h : RD b c l w) : w.cell? ⟨b, 8, none⟩ = some (.string ⟨c.flags.toArray⟩) := by rw [Lib.cell_of_heap h]; rfl
theorem RD.c9 (h : RD b c l w) : w.cell? ⟨b, 9, none⟩ = some (.string ⟨c.arg.toArray⟩) := by rw [Lib.cell_of_heap h]; rfl
theorem RD.c10 (h : RD b c l w) : w.cell? ⟨b, 10, none⟩ = some (.string ⟨l.toArray⟩) := by rw [Lib.cell_of_heap h]; rfl
theorem RD.fz (h : RD b c l w) (j : Nat) : w.frozen? ⟨b, j, none⟩ = false := Lib.frozen_of_heap h j
theorem RD.drewN (h : RD b c l w) (n : Nat) : RD b c l (w.drewN n) := h
theorem RD.mod {S : Nat → Prop} {w' : World} (h : RD b c l w) (hm : Mod S w w') (hs : ¬ S b) : RD b c l w' := hm.get h hs
theorem RD.setName (h : RD b c l w) (x : Bs) : RD b { c with name := x } l (w.setCell ⟨b, 1, none⟩ (.string ⟨x.toArray⟩)) := by unfold RD at h ⊢; rw [blk_setCell h]; rfl
theorem RD.setBang (h : RD b c l w) (x : Bool) : RD b { c with bang := x } l (w.setCell ⟨b, 2, none⟩ (.bool x)) := by unfold RD at h ⊢; rw [blk_setCell h]; rfl
theorem RD.setReg (h : RD b c l w) (x : UInt8) : RD b { c with reg := x } l (w.setCell ⟨b, 3, none⟩ (.int .u8 x.toNat)) := by unfold RD at h ⊢; rw [blk_setCell h]; rfl
theorem RD.setCount (h : RD b c l w) (x : Int) : RD b { c with count := x } l (w.setCell ⟨b, 4, none⟩ (.int .i64 x)) := by unfold RD at h ⊢; rw [blk_setCell h]; rfl
theorem RD.setDv (h : RD b c l w) (x : Value) : RD b { c with dv := x } l (w.setCell ⟨b, 5, none⟩ x) := by unfold RD at h ⊢; rw [blk_setCell h]; rfl
theorem RD.setPat (h : RD b c l w) (x : Bs) : RD b { c with pat := x } l (w.setCell ⟨b, 6, none⟩ (.string ⟨x.toArray⟩)) := by unfold RD at h ⊢; rw [blk_setCell h]; rfl
theorem RD.setRep (h : RD b c l w) (x : Bs) : RD b { c with rep := x } l (w.setCell ⟨b, 7, none⟩ (.string ⟨x.toArray⟩)) := by unfold RD at h ⊢; rw [blk_setCell h]; rfl
theorem RD.setFlags (h : RD b c l w) (x : Bs) : RD b { c with flags := x } l (w.setCell ⟨b, 8, none⟩ (.string ⟨x.toArray⟩)) := by unfold RD at h ⊢; rw [blk_setCell h]; rfl
theorem RD.setArg (h : RD b c l w) (x : Bs) : RD b { c with arg := x } l (w.setCell ⟨b, 9, none⟩ (.string ⟨x.toArray⟩)) := by unfold RD at h ⊢; rw [blk_setCell h]; rfl
theorem RD.setRest (h : RD b c l w) (x : Bs) : RD b c x (w.setCell ⟨b, 10, none⟩ (.string ⟨x.toArray⟩)) := by unfold RD at h ⊢; rw [blk_setCell h]; rfl
end

theorem trim_l (l : Bs) (cs : ByteArray) (w : World) (h1 : cs.size < 4294967281) (h2 : cs.data.toList.all (fun b => decide (b.toNat < 128)) = true) :
    Calls Tryz.prog 40 #[.string ⟨l.toArray⟩, .string cs] w fun e w' => e = .returned (.string ⟨(Lib.trimLeftS l cs.data.toList).toArray⟩) ∧ Below w.heap.size w w' :=
  trim_any ⟨l.toArray⟩ cs w h1 h2

set_option maxHeartbeats 400000 in
theorem skip_any (b : Nat) (c : Cm) (l : Bs) (w : World) (h : RD b c l w) :
    Calls Tryz.prog 15 #[.pointer (some ⟨b, 0, none⟩)] w fun e w' => e = .returned (.tuple #[]) ∧ RD b c (blanks l) w' ∧ Mod (· = b) w w' := by
  have c10 := h.c10
  have hlt := lt_of_blk h
  go_enter Tryz.func15, Tryz.ntmps15
  go_wp2_with fail
  refine (trim_l l ⟨#[32, 9]⟩ _ (by decide) (by decide)).mono ?_
  rintro e w1 ⟨rfl, hb⟩
  have h1 : RD b c l w1 := h.mod (Mod.of_below (S := fun _ => False) hb) (fun c => c)
  have k10 := h1.c10
  have f10 := h1.fz 10
  go_wp2_with fail
  go_end0
  exact ⟨rfl, h1.setRest _, (Mod.of_below hb).set1 10 _⟩

theorem ex_take (l : Bs) (n : Nat) : (⟨l.toArray⟩ : ByteArray).extract 0 n = ⟨(l.take n).toArray⟩ := by
  apply ByteArray.ext
  simp
theorem ex_drop (l : Bs) (n : Nat) : (⟨l.toArray⟩ : ByteArray).extract n l.length = ⟨(l.drop n).toArray⟩ := by
  apply ByteArray.ext
  simp
  rw [List.take_of_length_le (by simp)]

set_option maxHeartbeats 400000 in
theorem cut_any (b : Nat) (c : Cm) (l : Bs) (w : World) (h : RD b c l w) (v : Int) (n : Nat) (hv : v = (n : Int)) (hn : n ≤ l.length) (_hl : l.length ≤ 1000) :
    Calls Tryz.prog 13 #[.pointer (some ⟨b, 0, none⟩), .int .i64 v] w fun e w' => e = .returned (.string ⟨(l.take n).toArray⟩) ∧ RD b c (l.drop n) w' ∧ Mod (· = b) w w' := by
  subst hv
  have c10 := h.c10
  have f10 := h.fz 10
  go_enter Tryz.func13, Tryz.ntmps13
  go_wp2
  go_ret
  rw [ex_take, ex_drop]
  exact ⟨rfl, h.setRest _, (Mod.refl _ _).set1 10 _⟩

def registerC (c : Cm) (l : Bs) : Cm × Bs :=
  match blanks l with
  | [] => (c, [])
  | x :: t => if isDig x then (c, x :: t) else ({ c with reg := x }, t)

theorem blanks_le (l : Bs) : (blanks l).length ≤ l.length := trimLeft_le l _

theorem head0 (x : UInt8) (t : Bs) : 0 < (⟨(x :: t).toArray⟩ : ByteArray).size := by simp [ByteArray.size]
theorem is_d0 (x : UInt8) (t : Bs) (w : World) : Calls Tryz.prog 60 #[.int .u8 100, .int .u8 ((⟨(x :: t).toArray⟩ : ByteArray)[0]'(head0 x t)).toNat] w fun e w' => e = .returned (.bool (isDig x)) ∧ w = w' := by
  have h := is_d (x.toNat : Int) w
  rw [dig_isDig] at h
  exact h
theorem is_s0 (x : UInt8) (t : Bs) (w : World) : Calls Tryz.prog 60 #[.int .u8 115, .int .u8 ((⟨(x :: t).toArray⟩ : ByteArray)[0]'(head0 x t)).toNat] w fun e w' => e = .returned (.bool (blk (x.toNat : Int))) ∧ w = w' :=
  is_s (x.toNat : Int) w
theorem cut1_any (b : Nat) (c : Cm) (x : UInt8) (t : Bs) (w : World) (h : RD b c (x :: t) w) (hl : (x :: t).length ≤ 1000) :
    Calls Tryz.prog 13 #[.pointer (some ⟨b, 0, none⟩), .int .i64 1] w fun e w' => e = .returned (.string ⟨#[x]⟩) ∧ RD b c t w' ∧ Mod (· = b) w w' :=
  cut_any b c (x :: t) w h 1 1 rfl (by simp) hl

set_option maxHeartbeats 1000000 in
theorem register_any (b : Nat) (c : Cm) (l : Bs) (w : World) (h : RD b c l w) (hl : l.length ≤ 1000) :
    Calls Tryz.prog 32 #[.pointer (some ⟨b, 0, none⟩)] w fun e w' => e = .returned (.tuple #[]) ∧ RD b (registerC c l).1 (registerC c l).2 w' ∧ Mod (· = b) w w' := by
  have hbl := blanks_le l
  go_enter Tryz.func32, Tryz.ntmps32
  go_wp2_with fail
  refine (skip_any b c l _ h).mono ?_
  rintro e w1 ⟨rfl, h1, hm1⟩
  rcases hb : blanks l with _ | ⟨x, t⟩
  · rw [hb] at h1
    have HR := Lib.hid (show registerC c l = (c, []) by unfold registerC; rw [hb])
    have c10 := h1.c10
    clear hb
    go_wp2_with fail
    go_end0
    rw [HR.out]
    exact ⟨rfl, h1, hm1⟩
  · rw [hb] at h1 hbl
    have c10 := h1.c10
    cases hd : isDig x with
    | true =>
      have HR := Lib.hid (show registerC c l = (c, x :: t) by unfold registerC; rw [hb]; simp [hd])
      clear hb
      go_wp2_with (go_at_call 60; refine (is_d0 x t _).mono ?_; rintro e w2 ⟨rfl, rfl⟩)
      go_end0
      rw [HR.out]
      exact ⟨rfl, h1, hm1⟩
    | false =>
      have HR := Lib.hid (show registerC c l = ({ c with reg := x }, t) by unfold registerC; rw [hb]; simp [hd])
      clear hb
      go_wp2_with (first | (go_at_call 60; refine (is_d0 x t _).mono ?_; rintro e w2 ⟨rfl, rfl⟩) | (go_at_call 13; refine (cut1_any b c x t _ h1 (by omega)).mono ?_; rintro e w2 ⟨rfl, h2, hm2⟩; have q3 := h2.fz 3; have p3 := h2.c3))
      go_end0
      rw [HR.out]
      exact ⟨rfl, h2.setReg x, (hm1.trans hm2).set1 3 _⟩
end Go.Proofs.YthajagmccaaanaaGreatDoor
