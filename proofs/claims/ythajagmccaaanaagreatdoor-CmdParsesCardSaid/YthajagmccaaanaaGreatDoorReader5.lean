/- cmd.reader: flagged, sub, global. -/
import Derived.Test.YthajagmccaaanaaGreatDoorReader4
namespace Go.Proofs.YthajagmccaaanaaGreatDoor
open Go.RowKit

def isFlag (x : UInt8) : Bool := [38, 99, 101, 103, 105, 73, 110].contains x
def flagsL (l : Bs) : Bs := l.takeWhile isFlag
def flaggedC (c : Cm) (l : Bs) : Option (Cm × Bs) :=
  numberC { c with flags := flagsL (blanks l) } ((blanks l).drop (flagsL (blanks l)).length)
def subC (c : Cm) (l : Bs) : Option (Cm × Bs) :=
  match signC l with
  | none => flaggedC c (blanks l)
  | some (x, t) => flaggedC { c with pat := (splitL x t).1, arg := [61], rep := (splitL x (t.drop (splitL x t).2)).1 } ((t.drop (splitL x t).2).drop (splitL x (t.drop (splitL x t).2)).2)
def globalC (c : Cm) (l : Bs) : Option (Cm × Bs) :=
  match signC l with
  | none => none
  | some (x, t) => some ({ c with pat := (splitL x t).1, arg := match t.drop (splitL x t).2 with | [] => [112] | y :: r => y :: r }, [])

theorem OrErr.shape {b : Nat} {r : Option (Cm × Bs)} {n : Int} {w w' : World} {e : Ending} (h : OrErr b r n w e w') : ∃ v, e = .returned (.int .u16 v) := by
  obtain ⟨_, h⟩ := h
  rcases r with _ | ⟨c, l⟩
  · exact ⟨_, h⟩
  · exact ⟨_, h.1⟩
theorem OrErr.from {b : Nat} {r : Option (Cm × Bs)} {n : Int} {w0 w w' : World} {e : Ending} (hm : Mod (· = b) w0 w) (h : OrErr b r n w e w') : OrErr b r n w0 e w' := ⟨hm.trans h.1, h.2⟩

theorem flags_drop (l : Bs) : Lib.trimLeftS l [38, 99, 101, 103, 105, 73, 110] = l.drop (flagsL l).length := by
  unfold Lib.trimLeftS flagsL
  induction l with
  | nil => rfl
  | cons x l ih =>
    rw [List.dropWhile_cons, List.takeWhile_cons]
    cases hx : isFlag x with
    | true =>
      have hx' : List.contains [38, 99, 101, 103, 105, 73, 110] x = true := hx
      rw [hx']
      simpa using ih
    | false =>
      have hx' : List.contains [38, 99, 101, 103, 105, 73, 110] x = false := hx
      rw [hx']
      simp
theorem flags_take (l : Bs) : l.take (flagsL l).length = flagsL l := (List.prefix_iff_eq_take.1 (List.takeWhile_prefix _)).symm
theorem flags_le (l : Bs) : (flagsL l).length ≤ l.length := (List.takeWhile_sublist _).length_le
theorem trim_f (l : Bs) (w : World) : Calls Tryz.prog 40 #[.string ⟨l.toArray⟩, .string ⟨#[38, 99, 101, 103, 105, 73, 110]⟩] w fun e w' => e = .returned (.string ⟨(l.drop (flagsL l).length).toArray⟩) ∧ Below w.heap.size w w' := by
  have := trim_l l ⟨#[38, 99, 101, 103, 105, 73, 110]⟩ w (by decide) (by decide)
  rw [flags_drop] at this
  exact this

set_option maxHeartbeats 4000000 in
theorem flagged_any (b : Nat) (c : Cm) (l : Bs) (w : World) (h : RD b c l w) (hl : l.length ≤ 1000) :
    Calls Tryz.prog 37 #[.pointer (some ⟨b, 0, none⟩)] w (OrErr b (flaggedC c l) 151 w) := by
  have hbl := blanks_le l
  have hb0 := lt_of_blk h
  go_enter Tryz.func37, Tryz.ntmps37
  go_wp2_with fail
  refine (skip_any b c l _ h).mono ?_
  rintro e w1 ⟨rfl, h1, hm1⟩
  generalize hb : blanks l = l1 at h1 hbl
  have HQ := Lib.hid (show ∀ w0 w' e, Mod (· = b) w w0 → OrErr b (numberC { c with flags := flagsL l1 } (l1.drop (flagsL l1).length)) 151 w0 e w' → OrErr b (flaggedC c l) 151 w e w' from fun w0 w' e hm h => by unfold flaggedC; rw [hb]; exact h.from hm)
  clear hb
  have c10 := h1.c10
  have hb1 := lt_of_blk h1
  have hfl := flags_le l1
  go_wp2_with fail
  refine wp_region_after [0, 1, 2, 3, 4, 5, 6, 7, 8, 9, 10, 11, 12, 13] [14, 15, 16, 17, 18] (by kernel_rfl) (by kernel_rfl) (by intro c a d v w h; first | exact h | (delta Exit.then at h ⊢; exact h) | (dsimp +zetaDelta only [Exit.then, Exit.inBlock, Exit.noGoto, bodyPost, put_def] at h ⊢; exact h) | (simp +zetaDelta only at h ⊢; exact h) | (simp +zetaDelta only [bodyPost, put_def] at h ⊢; exact h) | (simp +zetaDelta only [Exit.then, Exit.inBlock, Exit.noGoto, bodyPost, put_def] at h ⊢; exact h)) ?_
  simp only [picks_nil, picks_cons, List.getD_cons_zero, List.getD_cons_succ]
  repeat (go_big_quiet_step ((go_at_call 40; exact After.calls_below (trim_f l1 _))))
  refine wpQuiet_nil ?_
  intro _ hu
  obtain ⟨u, hu'⟩ := hu
  subst hu'
  have hu : RD b c l1 u.w := u.get h1
  have hmu := u.h
  generalize u.w = w2 at *
  go_wp2_with fail
  refine (cut_as b c l1 _ hu _ (flagsL l1).length _ _ (flags_take l1) rfl (by first | omega | (simp; omega)) hfl (by omega)).mono ?_
  rintro e w3 ⟨rfl, h3, hm3⟩
  have c8 := h3.c8
  have f8 := h3.fz 8
  go_wp2_with fail
  refine (cnum_any b { c with flags := flagsL l1 } _ _ (h3.setFlags _) (by simp; omega)).mono ?_
  intro e w4 h4
  obtain ⟨v, rfl⟩ := h4.shape
  go_wp2_with fail
  go_ret
  exact HQ.out _ _ _ (((hm1.trans hmu.widen).trans hm3).set1 8 _) h4

theorem sign_some {l t : Bs} {x : UInt8} (h : signC l = some (x, t)) : t.length < l.length := by
  have hbl := blanks_le l
  unfold signC at h
  rcases hb : blanks l with _ | ⟨y, r⟩
  · rw [hb] at h; simp at h
  · rw [hb] at h hbl
    simp only at h
    split at h
    · simp at h hbl
      rw [← h.2]
      omega
    · simp at h

set_option maxHeartbeats 4000000 in
theorem sub_any (b : Nat) (c : Cm) (l : Bs) (w : World) (h : RD b c l w) (hl : l.length ≤ 1000) :
    Calls Tryz.prog 36 #[.pointer (some ⟨b, 0, none⟩)] w (OrErr b (subC c l) 151 w) := by
  have hbl := blanks_le l
  go_enter Tryz.func36, Tryz.ntmps36
  go_wp2_with fail
  refine (sign_any b c l _ h hl).mono ?_
  rintro e w1 ⟨hm1, hs⟩
  rcases hsg : signC l with _ | ⟨x, t⟩
  · rw [hsg] at hs
    obtain ⟨rfl, h1⟩ := hs
    have HQ := Lib.hid (show ∀ w0 w' e, Mod (· = b) w w0 → OrErr b (flaggedC c (blanks l)) 151 w0 e w' → OrErr b (subC c l) 151 w e w' from fun w0 w' e hm h => by unfold subC; rw [hsg]; exact h.from hm)
    clear hsg
    go_wp2_with fail
    refine (flagged_any b c _ _ h1 (by omega)).mono ?_
    intro e w4 h4
    obtain ⟨v, rfl⟩ := h4.shape
    go_wp2_with fail
    go_ret
    exact HQ.out _ _ _ hm1 h4
  · rw [hsg] at hs
    obtain ⟨rfl, h1⟩ := hs
    have htl := sign_some hsg
    have HQ := Lib.hid (show ∀ w0 w' e, Mod (· = b) w w0 → OrErr b (flaggedC { c with pat := (splitL x t).1, arg := [61], rep := (splitL x (t.drop (splitL x t).2)).1 } ((t.drop (splitL x t).2).drop (splitL x (t.drop (splitL x t).2)).2)) 151 w0 e w' → OrErr b (subC c l) 151 w e w' from fun w0 w' e hm h => by unfold subC; rw [hsg]; exact h.from hm)
    clear hsg
    go_wp2_with fail
    refine (part_any b c t _ h1 (by omega) x).mono ?_
    rintro e w2 ⟨rfl, h2, hm2⟩
    have c6 := h2.c6
    have f6 := h2.fz 6
    have c9 := h2.c9
    have f9 := h2.fz 9
    go_wp2_with fail
    refine (part_any b _ _ _ ((h2.setPat _).setArg [61]) (by simp; omega) x).mono ?_
    rintro e w3 ⟨rfl, h3, hm3⟩
    have c7 := h3.c7
    have f7 := h3.fz 7
    go_wp2_with fail
    refine (flagged_any b _ _ _ (h3.setRep _) (by simp; omega)).mono ?_
    intro e w4 h4
    obtain ⟨v, rfl⟩ := h4.shape
    go_wp2_with fail
    go_ret
    exact HQ.out _ _ _ ((((((hm1.trans hm2).set1 6 _).set1 9 _)).trans hm3).set1 7 _) h4

set_option maxHeartbeats 4000000 in
theorem global_any (b : Nat) (c : Cm) (l : Bs) (w : World) (h : RD b c l w) (hl : l.length ≤ 1000) :
    Calls Tryz.prog 38 #[.pointer (some ⟨b, 0, none⟩)] w (OrErr b (globalC c l) 150 w) := by
  go_enter Tryz.func38, Tryz.ntmps38
  go_wp2_with fail
  refine (sign_any b c l _ h hl).mono ?_
  rintro e w1 ⟨hm1, hs⟩
  rcases hsg : signC l with _ | ⟨x, t⟩
  · rw [hsg] at hs
    obtain ⟨rfl, h1⟩ := hs
    have HR := Lib.hid (show globalC c l = none by unfold globalC; rw [hsg])
    clear hsg
    go_wp2_with fail
    go_ret
    exact orErr_none HR.out hm1
  · rw [hsg] at hs
    obtain ⟨rfl, h1⟩ := hs
    have htl := sign_some hsg
    rcases htd : t.drop (splitL x t).2 with _ | ⟨y, r⟩
    · have HR := Lib.hid (show globalC c l = some ({ c with pat := (splitL x t).1, arg := [112] }, []) by unfold globalC; rw [hsg]; simp only [htd])
      have HT := Lib.hid htd
      clear hsg htd
      go_wp2_with fail
      refine (part_any b c t _ h1 (by omega) x).mono ?_
      rintro e w2 ⟨rfl, h2, hm2⟩
      rw [HT.out] at h2
      have c6 := h2.c6
      have f6 := h2.fz 6
      have c10 := h2.c10
      go_wp2_with fail
      refine (cutAll_any b { c with pat := (splitL x t).1 } [] _ (h2.setPat _) (by simp) _ rfl).mono ?_
      rintro e w3 ⟨rfl, h3, hm3⟩
      have c9 := h3.c9
      have f9 := h3.fz 9
      go_wp2_with fail
      go_ret
      exact orErr_some HR.out ((h3.setArg []).setArg [112]) (((((hm1.trans hm2).set1 6 _).trans hm3).set1 9 _).set1 9 _)
    · have HR := Lib.hid (show globalC c l = some ({ c with pat := (splitL x t).1, arg := y :: r }, []) by unfold globalC; rw [hsg]; simp only [htd])
      have hyr : (y :: r).length ≤ 1000 := by rw [← htd]; simp; omega
      have HT := Lib.hid htd
      clear hsg htd
      go_wp2_with fail
      refine (part_any b c t _ h1 (by omega) x).mono ?_
      rintro e w2 ⟨rfl, h2, hm2⟩
      rw [HT.out] at h2
      have c6 := h2.c6
      have f6 := h2.fz 6
      have c10 := h2.c10
      go_wp2_with fail
      refine (cutAll_any b { c with pat := (splitL x t).1 } (y :: r) _ (h2.setPat _) hyr _ (by simp)).mono ?_
      rintro e w3 ⟨rfl, h3, hm3⟩
      have c9 := h3.c9
      have f9 := h3.fz 9
      go_wp2_with fail
      go_ret
      exact orErr_some HR.out (h3.setArg (y :: r)) ((((hm1.trans hm2).set1 6 _).trans hm3).set1 9 _)
end Go.Proofs.YthajagmccaaanaaGreatDoor
