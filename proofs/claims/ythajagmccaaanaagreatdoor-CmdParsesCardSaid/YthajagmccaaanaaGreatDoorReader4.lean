/- cmd.reader: number, flagged, sub, global. -/
import Derived.Test.YthajagmccaaanaaGreatDoorReader3
namespace Go.Proofs.YthajagmccaaanaaGreatDoor
open Go.RowKit

theorem val_take_lt (d : Bs) (k : Nat) (hd : ∀ c ∈ d, isDig c = true) (h9 : d.length ≤ 9) : val (d.take k) < 10 ^ 9 := by
  have h2 := val_lt (d.take k) (fun c hc => hd c (List.mem_of_mem_take hc))
  have h3 : (d.take k).length ≤ 9 := by simp; omega
  exact Nat.lt_of_lt_of_le h2 (Nat.pow_le_pow_right (by omega) h3)

def numberC (c : Cm) (l : Bs) : Option (Cm × Bs) :=
  let l1 := blanks l
  if 9 < (digs l1).length then none
  else if (digs l1).length = 0 then some (c, l1)
  else some ({ c with count := (val (digs l1) : Int) }, l1.drop (digs l1).length)

theorem digs_drop_trim (l : Bs) : Lib.trimLeftS l [48, 49, 50, 51, 52, 53, 54, 55, 56, 57] = l.drop (digs l).length := by
  have hd : ∀ x : UInt8, ([48, 49, 50, 51, 52, 53, 54, 55, 56, 57] : List UInt8).contains x = isDig x := by
    intro x
    unfold isDig
    rw [Bool.eq_iff_iff]
    simp only [List.contains_iff_mem, List.mem_cons, List.not_mem_nil, or_false, decide_eq_true_eq, ← UInt8.toNat_inj]
    simp
    omega
  unfold Lib.trimLeftS
  induction l with
  | nil => rfl
  | cons x l ih =>
    rw [List.dropWhile_cons, digs_cons, hd]
    cases hx : isDig x with
    | true => simpa using ih
    | false => simp

theorem trim_d (l : Bs) (w : World) : Calls Tryz.prog 40 #[.string ⟨l.toArray⟩, .string ⟨#[48, 49, 50, 51, 52, 53, 54, 55, 56, 57]⟩] w fun e w' => e = .returned (.string ⟨(l.drop (digs l).length).toArray⟩) ∧ Below w.heap.size w w' := by
  have := trim_l l ⟨#[48, 49, 50, 51, 52, 53, 54, 55, 56, 57]⟩ w (by decide) (by decide)
  rw [digs_drop_trim] at this
  exact this

def NumberPost (b : Nat) (c : Cm) (l : Bs) (w : World) (e : Ending) (w' : World) : Prop := OrErr b (numberC c l) 151 w e w'

theorem Mod.iterAt {S : Nat → Prop} {a b : World} (h : Mod S a b) {k : Nat} (hk : a.heap.size ≤ k) (s : ByteArray) (pos : Nat) : Mod S a (b.iterAt k s pos) :=
  ⟨h.os, h.tape, h.output, by rw [Lib.iterAt_size]; exact h.size, fun i hi hs => (Lib.iterAt_other b k i s pos (by omega)).trans (h.block i hi hs)⟩
theorem RD.iterAt {b : Nat} {c : Cm} {l : Bs} {w : World} (h : RD b c l w) {k : Nat} {s : ByteArray} {p : Nat} (hk : w.heap[k]? = some (.stringIter s p)) (pos : Nat) : RD b c l (w.iterAt k s pos) := by
  have : b ≠ k := by
    rintro rfl
    unfold RD at h
    rw [hk] at h
    cases h
  exact (Lib.iterAt_other w k b s pos this).trans h

theorem cut_as (b : Nat) (c : Cm) (l : Bs) (w : World) (h : RD b c l w) (v : Int) (n : Nat) (d r : Bs) (hd : l.take n = d) (hr : l.drop n = r) (hv : v = (n : Int)) (hn : n ≤ l.length) (hl : l.length ≤ 1000) :
    Calls Tryz.prog 13 #[.pointer (some ⟨b, 0, none⟩), .int .i64 v] w fun e w' => e = .returned (.string ⟨d.toArray⟩) ∧ RD b c r w' ∧ Mod (· = b) w w' := by
  subst hd hr
  exact cut_any b c l w h v n hv hn hl

theorem RD.get0 {b : Nat} {c : Cm} {l : Bs} {w : World} (h : RD b c l w) (o : Obj) : RD b c l (w.alloc o) := blk_alloc h o

set_option maxHeartbeats 4000000 in
theorem cnum_any (b : Nat) (c : Cm) (l : Bs) (w : World) (h : RD b c l w) (hl : l.length ≤ 1000) :
    Calls Tryz.prog 33 #[.pointer (some ⟨b, 0, none⟩)] w (OrErr b (numberC c l) 151 w) := by
  have hbl := blanks_le l
  have hb0 := lt_of_blk h
  go_enter Tryz.func33, Tryz.ntmps33
  go_wp2_with fail
  refine (skip_any b c l _ h).mono ?_
  rintro e w1 ⟨rfl, h1, hm1⟩
  generalize hb : blanks l = l1 at h1 hbl
  have HB := Lib.hid hb
  clear hb
  have c10 := h1.c10
  have f10 := h1.fz 10
  have hdl := digs_le l1
  have hb1 := lt_of_blk h1
  go_wp2_with fail
  refine wp_region_after_all (by kernel_rfl) (by kernel_rfl) ?_
  repeat (go_big_quiet_step ((go_at_call 40; exact After.calls_below (trim_d l1 _))))
  refine wpQuiet_nil ?_
  intro _ hu
  obtain ⟨u, hu'⟩ := hu
  subst hu'
  have hu : RD b c l1 u.w := u.get h1
  have hmu := u.h
  generalize u.w = w2 at *
  have c10 := hu.c10
  by_cases h9 : 9 < (digs l1).length
  · have HR := Lib.hid (show numberC c l = none by unfold numberC; rw [HB.out]; simp only [h9, if_true])
    have e1 : decide ((l1.length : Int) - ((l1.drop (digs l1).length).length : Int) > 9) = true := by simp; omega
    go_wp2_with fail
    go_ret
    exact orErr_none HR.out (hm1.trans hmu.widen)
  · have e1 : decide ((l1.length : Int) - ((l1.drop (digs l1).length).length : Int) > 9) = false := by simp; omega
    by_cases h0 : (digs l1).length = 0
    · have HR := Lib.hid (show numberC c l = some (c, l1) by unfold numberC; rw [HB.out]; simp only [h0]; rfl)
      have e2 : (((l1.length : Int) - ((l1.drop (digs l1).length).length : Int)) == 0) = true := by rw [beq_iff_eq]; simp; omega
      go_wp2_with fail
      go_ret
      exact orErr_some HR.out hu (hm1.trans hmu.widen)
    · have HR := Lib.hid (show numberC c l = some ({ c with count := (val (digs l1) : Int) }, l1.drop (digs l1).length) by unfold numberC; rw [HB.out]; simp only [h9, h0, if_false])
      have e2 : (((l1.length : Int) - ((l1.drop (digs l1).length).length : Int)) == 0) = false := by rw [beq_eq_false_iff_ne]; simp; omega
      have c4 := hu.c4
      have f4 := hu.fz 4
      go_wp2_with fail
      have hdk := Lib.hid (digs_take l1)
      have hda := digs_all l1
      have hv9 := val_digs_lt l1 _ (Nat.le_refl _) (by omega)
      rw [digs_take] at hv9
      generalize hdd : digs l1 = d at *
      have hv9 := fun k => val_take_lt d k hda (by omega)
      generalize hrr : l1.drop d.length = r at *
      refine (cut_as b { c with count := 0 } l1 _ (hu.setCount 0) _ d.length d r hdk.out hrr (by first | omega | (simp; omega)) hdl (by omega)).mono ?_
      rintro e w3 ⟨rfl, h3, hm3⟩
      clear hdd hrr
      have hm3' : Mod (· = b) w1 w3 := (hmu.widen.set1 4 _).trans hm3
      have hb3 := lt_of_blk h3
      go_wp2_with fail
      have HV := Lib.hid (fun k (hk : k < d.length) => val_take d k hk)
      go_loopg [] 10 (fun g wr => ∃ k : Nat, g + k = 10 ∧ k ≤ d.length ∧ RD b { c with count := (val (d.take k) : Int) } r wr ∧ wr.heap[w3.heap.size]? = some (.stringIter ⟨d.toArray⟩ k) ∧ Mod (· = b) w1 wr)
      case atStart => exact ⟨0, rfl, Nat.zero_le _, h3.get0 _, blk_new _ _, hm3'.alloc _⟩
      case round =>
        obtain ⟨k, hg, hk, hR, hit, hM⟩ := hrel
        have c4 := hR.c4
        have f4 := hR.fz 4
        have hsz := lt_of_blk hit
        have hbs := lt_of_blk hR
        by_cases hkd : k < d.length
        · have hx := hda (d[k]) (List.getElem_mem hkd)
          have hvk := hv9 k
          have hvk1 := hv9 (k + 1)
          have hvt := Lib.hid (val_take d k hkd)
          obtain ⟨x, hxx⟩ : ∃ x, (d[k]'hkd).toNat = x := ⟨_, rfl⟩
          simp only [isDig, decide_eq_true_eq] at hx
          rw [hxx] at hx
          have HX := Lib.hid hxx
          have hnx : ∀ ty, (Instr.next (.pointer (some ⟨w3.heap.size, 0, none⟩)) true ty).run Tryz.prog wr = .ok (.tuple #[.bool true, .int .i64 k, .int .i32 (x : Int)]) (wr.iterAt w3.heap.size ⟨d.toArray⟩ (k + 1)) := fun ty => by
            rw [← hxx]
            exact Lib.run_next_ascii_at wr w3.heap.size ⟨d.toArray⟩ k ty hit (by simpa [ByteArray.size] using hkd) (by
              show (d.toArray[k]'(by simpa using hkd)).toNat < 128
              simp only [List.getElem_toArray]
              omega)
          clear hxx
          have hR' := hR.iterAt hit (k + 1)
          have c4 := hR'.c4
          have f4 := hR'.fz 4
          have hit' := Lib.iterAt_heap wr w3.heap.size ⟨d.toArray⟩ k (k + 1) hit
          have hM' := hM.iterAt (k := w3.heap.size) (by have := hm3'.size; omega) ⟨d.toArray⟩ (k + 1)
          have hb' : b < (wr.iterAt w3.heap.size ⟨d.toArray⟩ (k + 1)).heap.size := lt_of_blk hR'
          go_wp2_with fail
          go_roundg (gk - 1)
          case measure => omega
          case rel =>
            have hvt := hvt.out
            rw [HX.out] at hvt
            refine ⟨k + 1, by omega, hkd, ?_, blk_setCell_ne hit' (by omega) _ _, hM'.set1 4 _⟩
            rw [show ((val (d.take (k + 1)) : Nat) : Int) = 10 * (val (d.take k) : Int) + ((x : Int) - 48) by omega]
            exact hR'.setCount _
        · have hnx : ∀ ty, (Instr.next (.pointer (some ⟨w3.heap.size, 0, none⟩)) true ty).run Tryz.prog wr = .ok (.tuple #[.bool false]) wr := fun ty =>
            Lib.run_next_end_at wr w3.heap.size ⟨d.toArray⟩ k ty hit (by simpa [ByteArray.size] using hkd)
          go_wp2_with fail
          go_ret
          rw [List.take_of_length_le (by omega)] at hR
          exact orErr_some HR.out hR (hm1.trans hM)
end Go.Proofs.YthajagmccaaanaaGreatDoor
