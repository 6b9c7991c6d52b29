/- cmd.reader: mark, keys, sign, part, dest. -/
import Derived.Test.YthajagmccaaanaaGreatDoorReader
namespace Go.Proofs.YthajagmccaaanaaGreatDoor
open Go.RowKit

theorem indexByte_mem (l : List UInt8) (c : UInt8) : (decide (0 ≤ Lib.indexByte l c)) = l.contains c := by
  induction l with
  | nil => rfl
  | cons b l ih =>
    have hge := Lib.indexByte_ge l c
    unfold Lib.indexByte
    rw [List.contains_cons]
    by_cases h : b = c
    · subst h; simp
    · have h1 : (b == c) = false := by simpa using h
      have h2 : (c == b) = false := by simpa using fun e => h e.symm
      rw [h1, h2, ← ih]
      simp only [Bool.false_eq_true, if_false, Bool.false_or]
      by_cases h3 : Lib.indexByte l c = -1
      · rw [h3]; simp
      · have h4 : (Lib.indexByte l c == -1) = false := by simpa using h3
        rw [h4]
        simp only [Bool.false_eq_true, if_false, decide_eq_decide]
        omega

def markC (c : Cm) (l : Bs) : Option (Cm × Bs) :=
  match blanks l with
  | [] => none
  | x :: t => some ({ c with reg := x }, t)

/-- What a call that may fail leaves: an error's number, or a command and what is left. -/
def OrErr (b : Nat) (r : Option (Cm × Bs)) (n : Int) (w : World) (e : Ending) (w' : World) : Prop :=
  Mod (· = b) w w' ∧ match r with
  | none => e = .returned (.int .u16 n)
  | some (c, l) => e = .returned (.int .u16 0) ∧ RD b c l w'
theorem orErr_none {b : Nat} {r : Option (Cm × Bs)} {n : Int} {w w' : World} (h : r = none) (hm : Mod (· = b) w w') : OrErr b r n w (.returned (.int .u16 n)) w' := by
  rw [h]; exact ⟨hm, rfl⟩
theorem orErr_some {b : Nat} {r : Option (Cm × Bs)} {n : Int} {c : Cm} {l : Bs} {w w' : World} (h : r = some (c, l)) (hr : RD b c l w') (hm : Mod (· = b) w w') : OrErr b r n w (.returned (.int .u16 0)) w' := by
  rw [h]; exact ⟨hm, rfl, hr⟩

set_option maxHeartbeats 1000000 in
theorem mark_any (b : Nat) (c : Cm) (l : Bs) (w : World) (h : RD b c l w) (hl : l.length ≤ 1000) :
    Calls Tryz.prog 35 #[.pointer (some ⟨b, 0, none⟩)] w (OrErr b (markC c l) 151 w) := by
  have hbl := blanks_le l
  go_enter Tryz.func35, Tryz.ntmps35
  go_wp2_with fail
  refine (skip_any b c l _ h).mono ?_
  rintro e w1 ⟨rfl, h1, hm1⟩
  rcases hb : blanks l with _ | ⟨x, t⟩
  · rw [hb] at h1
    have HR := Lib.hid (show markC c l = none by unfold markC; rw [hb])
    have c10 := h1.c10
    clear hb
    go_wp2_with fail
    go_ret
    exact orErr_none HR.out hm1
  · rw [hb] at h1 hbl
    have HR := Lib.hid (show markC c l = some ({ c with reg := x }, t) by unfold markC; rw [hb])
    have c10 := h1.c10
    clear hb
    go_wp2_with (go_at_call 13; refine (cut1_any b c x t _ h1 (by omega)).mono ?_; rintro e w2 ⟨rfl, h2, hm2⟩; have q3 := h2.fz 3; have p3 := h2.c3)
    go_ret
    exact orErr_some HR.out (h2.setReg x) ((hm1.trans hm2).set1 3 _)

def keysC (c : Cm) (l : Bs) : Option (Cm × Bs) :=
  let l1 := match l with
    | [] => []
    | x :: t => if blk (x.toNat : Int) then t else x :: t
  match l1 with
  | [] => none
  | y :: r => some ({ c with arg := y :: r }, [])

theorem cutAll_any (b : Nat) (c : Cm) (l : Bs) (w : World) (h : RD b c l w) (hl : l.length ≤ 1000) (v : Int) (hv : v = (l.length : Int)) :
    Calls Tryz.prog 13 #[.pointer (some ⟨b, 0, none⟩), .int .i64 v] w fun e w' => e = .returned (.string ⟨l.toArray⟩) ∧ RD b c [] w' ∧ Mod (· = b) w w' := by
  have := cut_any b c l w h v l.length hv (Nat.le_refl _) hl
  rw [List.take_length, List.drop_length] at this
  exact this

set_option maxHeartbeats 1000000 in
/-- keys, behind the one blank. -/
theorem keys_any (b : Nat) (c : Cm) (l : Bs) (w : World) (h : RD b c l w) (hl : l.length ≤ 1000) :
    Calls Tryz.prog 39 #[.pointer (some ⟨b, 0, none⟩)] w (OrErr b (keysC c l) 151 w) := by
  have c10 := h.c10
  rcases l with _ | ⟨x, t⟩
  · have HR := Lib.hid (show keysC c [] = none from rfl)
    go_enter Tryz.func39, Tryz.ntmps39
    go_wp2_with fail
    go_ret
    exact orErr_none HR.out (Mod.refl _ _)
  · cases hd : blk (x.toNat : Int) with
    | true =>
      rcases t with _ | ⟨y, r⟩
      · have HR := Lib.hid (show keysC c [x] = none by unfold keysC; simp only [hd, if_true])
        have HD := Lib.hid hd
        clear hd
        go_enter Tryz.func39, Tryz.ntmps39
        go_wp2_with (first | (go_at_call 60; refine (is_s0 x [] _).mono ?_; rw [HD.out]; rintro e w2 ⟨rfl, rfl⟩) | (go_at_call 13; refine (cut1_any b c x [] _ h (by omega)).mono ?_; rintro e w2 ⟨rfl, h2, hm2⟩; have q10 := h2.c10))
        go_ret
        exact orErr_none HR.out hm2
      · have HR := Lib.hid (show keysC c (x :: y :: r) = some ({ c with arg := y :: r }, []) by unfold keysC; simp only [hd, if_true])
        have HD := Lib.hid hd
        clear hd
        go_enter Tryz.func39, Tryz.ntmps39
        go_wp2_with (go_at_call 60; refine (is_s0 x (y :: r) _).mono ?_; rw [HD.out]; rintro e w2 ⟨rfl, rfl⟩)
        refine (cut1_any b c x (y :: r) _ h (by omega)).mono ?_
        rintro e w2 ⟨rfl, h2, hm2⟩
        have q10 := h2.c10
        go_wp2_with fail
        refine (cutAll_any b c (y :: r) _ h2 (by simp at hl ⊢; omega) _ (by simp)).mono ?_
        rintro e w3 ⟨rfl, h3, hm3⟩
        have q9 := h3.c9
        have f9 := h3.fz 9
        go_wp2_with fail
        go_ret
        exact orErr_some HR.out (h3.setArg (y :: r)) ((hm2.trans hm3).set1 9 _)
    | false =>
      have HR := Lib.hid (show keysC c (x :: t) = some ({ c with arg := x :: t }, []) by unfold keysC; simp only [hd, Bool.false_eq_true, if_false])
      have HD := Lib.hid hd
      clear hd
      go_enter Tryz.func39, Tryz.ntmps39
      go_wp2_with (go_at_call 60; refine (is_s0 x t _).mono ?_; rw [HD.out]; rintro e w2 ⟨rfl, rfl⟩)
      refine (cutAll_any b c (x :: t) _ h (by omega) _ (by simp)).mono ?_
      rintro e w3 ⟨rfl, h3, hm3⟩
      have q9 := h3.c9
      have f9 := h3.fz 9
      go_wp2_with fail
      go_ret
      exact orErr_some HR.out (h3.setArg (x :: t)) (hm3.set1 9 _)

set_option maxHeartbeats 1000000 in
theorem part_any (b : Nat) (c : Cm) (l : Bs) (w : World) (h : RD b c l w) (hl : l.length ≤ 1000) (x : UInt8) :
    Calls Tryz.prog 62 #[.pointer (some ⟨b, 0, none⟩), .int .u8 x.toNat] w fun e w' =>
      e = .returned (.string ⟨(splitL x l).1.toArray⟩) ∧ RD b c (l.drop (splitL x l).2) w' ∧ Mod (· = b) w w' := by
  have c10 := h.c10
  have hsl := splitL_len x _ l (Nat.le_refl _)
  have hlt := lt_of_blk h
  go_enter Tryz.func62, Tryz.ntmps62
  go_wp2_with fail
  refine (split_at ⟨l.toArray⟩ 0 x _ _ _ rfl rfl (by omega) (by simp [ByteArray.size]; omega)).mono ?_
  rintro e w1 ⟨rfl, hb⟩
  have h1 : RD b c l w1 := h.mod (Mod.of_below (S := fun _ => False) hb) (fun c => c)
  go_wp2_with fail
  refine (cut_any b c l _ h1 _ (splitL x l).2 (by simp) hsl.2 hl).mono ?_
  rintro e w2 ⟨rfl, h2, hm2⟩
  go_wp2_with fail
  go_ret
  exact ⟨rfl, h2, (Mod.of_below hb).trans hm2⟩
end Go.Proofs.YthajagmccaaanaaGreatDoor
