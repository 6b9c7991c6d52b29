/- cmd.reader: name. -/
import Derived.Test.YthajagmccaaanaaGreatDoorCutLeft
namespace Go.Proofs.YthajagmccaaanaaGreatDoor
open Go.RowKit

def wordIn (l : Bs) : Ws → Option (Bs × Bs)
  | [] => none
  | p :: r => if Lib.hasPrefix l p.1 then some p else wordIn l r

def nameC (c : Cm) (l : Bs) : Option (Cm × Bs) :=
  match l with
  | [] => some (c, [])
  | x :: t =>
    if x = 62 ∨ x = 60 then some ({ c with arg := x :: t.takeWhile (· == x), name := [x] }, cutL x (x :: t))
    else if Lib.hasPrefix (x :: t) [38, 38] then some ({ c with name := [38, 38] }, (x :: t).drop 2)
    else if [38, 126, 64, 61].contains x then some ({ c with name := [x] }, t)
    else match wordIn (x :: t) (wordsAt x) with
      | none => none
      | some p => some ({ c with name := p.2 }, (x :: t).drop p.1.length)

theorem cutL_le (x : UInt8) (l : Bs) : (cutL x l).length ≤ l.length := (List.dropWhile_sublist _).length_le
theorem cutL_take (x : UInt8) (l : Bs) : l.take (l.length - (cutL x l).length) = l.takeWhile (· == x) := by
  have h : l.takeWhile (· == x) ++ cutL x l = l := List.takeWhile_append_dropWhile
  have h2 := congrArg List.length h
  rw [List.length_append] at h2
  rw [show l.length - (cutL x l).length = (l.takeWhile (· == x)).length by omega]
  exact (List.prefix_iff_eq_take.1 (List.takeWhile_prefix _)).symm
theorem cutL_drop (x : UInt8) (l : Bs) : l.drop (l.length - (cutL x l).length) = cutL x l := by
  have h : l.takeWhile (· == x) ++ cutL x l = l := List.takeWhile_append_dropWhile
  have h2 := congrArg List.length h
  rw [List.length_append] at h2
  rw [show l.length - (cutL x l).length = (l.takeWhile (· == x)).length by omega]
  have h3 := congrArg (List.drop (l.takeWhile (· == x)).length) h
  rw [List.drop_left] at h3
  exact h3.symm

theorem enc62 : Utf8.encode ((62 : UInt8).toNat : Int) = ⟨#[62]⟩ := by kernel_rfl
theorem enc60 : Utf8.encode ((60 : UInt8).toNat : Int) = ⟨#[60]⟩ := by kernel_rfl
theorem cutLeft_0 (x : UInt8) (t : Bs) (hx : x.toNat < 128) (he : Utf8.encode (x.toNat : Int) = ⟨#[x]⟩) (w : World) :
    Calls Tryz.prog 27 #[.string ⟨(x :: t).toArray⟩, .string (Utf8.encode ((⟨(x :: t).toArray⟩ : ByteArray)[0]'(head0 x t)).toNat)] w fun e w' => e = .returned (.string ⟨(cutL x (x :: t)).toArray⟩) ∧ Below w.heap.size w w' := by
  have := cutLeft_any (x :: t) x hx w
  rw [← he] at this
  exact this

set_option maxRecDepth 100000 in
set_option maxHeartbeats 4000000 in
theorem name_angle (b : Nat) (c : Cm) (x : UInt8) (t : Bs) (w : World) (h : RD b c (x :: t) w) (hl : (x :: t).length ≤ 1000) (hx : x = 62 ∨ x = 60) :
    Calls Tryz.prog 10 #[.pointer (some ⟨b, 0, none⟩)] w (OrErr b (nameC c (x :: t)) 150 w) := by
  have HR := Lib.hid (show nameC c (x :: t) = some ({ c with arg := x :: t.takeWhile (· == x), name := [x] }, cutL x (x :: t)) by unfold nameC; simp only [hx, if_true])
  have c10 := h.c10
  have hb1 := lt_of_blk h
  have hc := cutL_le x (x :: t)
  rw [List.length_cons] at hc
  have hl' := hl
  rw [List.length_cons] at hl'
  have hd := Lib.hid (cutL_drop x (x :: t))
  have ht := Lib.hid (cutL_take x (x :: t))
  rw [List.takeWhile_cons_of_pos (by simp)] at ht
  rcases hx with rfl | rfl
  · go_enter Tryz.func10, Tryz.ntmps10
    go_wp2_with fail
    refine wp_region_after [0, 1, 2, 3, 4, 5, 6, 7, 8, 9, 10, 11, 12, 13, 14, 15] [16, 17, 18, 19, 20] (by kernel_rfl) (by kernel_rfl) (by intro c a d v w h; first | exact h | (delta Exit.then at h ⊢; exact h) | (dsimp +zetaDelta only [Exit.then, Exit.inBlock, Exit.noGoto, bodyPost, put_def] at h ⊢; exact h) | (simp +zetaDelta only at h ⊢; exact h) | (simp +zetaDelta only [bodyPost, put_def] at h ⊢; exact h) | (simp +zetaDelta only [Exit.then, Exit.inBlock, Exit.noGoto, bodyPost, put_def] at h ⊢; exact h)) ?_
    simp only [picks_nil, picks_cons, List.getD_cons_zero, List.getD_cons_succ]
    repeat (go_big_quiet_step ((go_at_call 27; exact After.calls_below (cutLeft_0 62 t (by decide) enc62 _))))
    refine wpQuiet_nil ?_
    intro _ hu
    obtain ⟨u, hu'⟩ := hu
    subst hu'
    have hu : RD b c (62 :: t) u.w := u.get h
    have hmu := u.h
    generalize u.w = w2 at *
    go_wp2_with fail
    refine (cut_as b c _ _ hu _ _ _ _ ht.out hd.out (by first | omega | (simp; omega)) (by omega) hl).mono ?_
    rintro e w3 ⟨rfl, h3, hm3⟩
    have c9 := h3.c9
    have f9 := h3.fz 9
    have c1 := h3.c1
    have f1 := h3.fz 1
    go_wp2_with fail
    go_ret
    have e1 := ex_take (62 :: t.takeWhile (· == 62)) 1
    rw [List.take_succ_cons, List.take_zero] at e1
    rw [e1]
    exact orErr_some HR.out ((h3.setArg (62 :: t.takeWhile (· == 62))).setName [62]) ((((Mod.refl _ _).trans hmu.widen).trans hm3).set1 9 _ |>.set1 1 _)
  · go_enter Tryz.func10, Tryz.ntmps10
    go_wp2_with fail
    refine wp_region_after [0, 1, 2, 3, 4, 5, 6, 7, 8, 9, 10, 11, 12, 13, 14, 15] [16, 17, 18, 19, 20] (by kernel_rfl) (by kernel_rfl) (by intro c a d v w h; first | exact h | (delta Exit.then at h ⊢; exact h) | (dsimp +zetaDelta only [Exit.then, Exit.inBlock, Exit.noGoto, bodyPost, put_def] at h ⊢; exact h) | (simp +zetaDelta only at h ⊢; exact h) | (simp +zetaDelta only [bodyPost, put_def] at h ⊢; exact h) | (simp +zetaDelta only [Exit.then, Exit.inBlock, Exit.noGoto, bodyPost, put_def] at h ⊢; exact h)) ?_
    simp only [picks_nil, picks_cons, List.getD_cons_zero, List.getD_cons_succ]
    repeat (go_big_quiet_step ((go_at_call 27; exact After.calls_below (cutLeft_0 60 t (by decide) enc60 _))))
    refine wpQuiet_nil ?_
    intro _ hu
    obtain ⟨u, hu'⟩ := hu
    subst hu'
    have hu : RD b c (60 :: t) u.w := u.get h
    have hmu := u.h
    generalize u.w = w2 at *
    go_wp2_with fail
    refine (cut_as b c _ _ hu _ _ _ _ ht.out hd.out (by first | omega | (simp; omega)) (by omega) hl).mono ?_
    rintro e w3 ⟨rfl, h3, hm3⟩
    have c9 := h3.c9
    have f9 := h3.fz 9
    have c1 := h3.c1
    have f1 := h3.fz 1
    go_wp2_with fail
    go_ret
    have e1 := ex_take (60 :: t.takeWhile (· == 60)) 1
    rw [List.take_succ_cons, List.take_zero] at e1
    rw [e1]
    exact orErr_some HR.out ((h3.setArg (60 :: t.takeWhile (· == 60))).setName [60]) ((((Mod.refl _ _).trans hmu.widen).trans hm3).set1 9 _ |>.set1 1 _)

theorem wcells_at (ws : Ws) : ∀ k (h : k < ws.length), (wcells ws)[2 * k]? = some (.string ⟨(ws[k]).1.toArray⟩) ∧ (wcells ws)[2 * k + 1]? = some (.string ⟨(ws[k]).2.toArray⟩) := by
  induction ws with
  | nil => intro k h; simp at h
  | cons p ws ih =>
    intro k h
    have e : wcells (p :: ws) = .string ⟨p.1.toArray⟩ :: .string ⟨p.2.toArray⟩ :: wcells ws := by simp [wcells]
    rw [e]
    cases k with
    | zero => exact ⟨rfl, rfl⟩
    | succ k =>
      have := ih k (by simpa using h)
      rw [show 2 * (k + 1) = 2 * k + 1 + 1 by omega]
      simpa using this

theorem findW_mem {c : UInt8} {ws : Ws} : ∀ {l : List (UInt8 × Ws)}, findW c l = some ws → ∃ d, (d, ws) ∈ l
  | [], h => by cases h
  | (d, vs) :: l, h => by
    unfold findW at h
    split at h
    · cases h; exact ⟨d, by simp⟩
    · obtain ⟨d', h'⟩ := findW_mem h
      exact ⟨d', List.mem_cons_of_mem _ h'⟩
theorem wordsAt_len (c : UInt8) : (wordsAt c).length ≤ 4 := by
  unfold wordsAt
  cases h : findW c tbl with
  | none => simp
  | some ws =>
    obtain ⟨d, hd⟩ := findW_mem h
    have : ∀ p ∈ tbl, p.2.length ≤ 4 := by decide
    exact this _ hd
theorem wordIn_step (l : Bs) (ws : Ws) (k : Nat) (h : k < ws.length) (hp : Lib.hasPrefix l (ws[k]).1 = false) : wordIn l (ws.drop k) = wordIn l (ws.drop (k + 1)) := by
  rw [List.drop_eq_getElem_cons h, wordIn, hp]
  simp
theorem wordIn_hit (l : Bs) (ws : Ws) (k : Nat) (h : k < ws.length) (hp : Lib.hasPrefix l (ws[k]).1 = true) : wordIn l (ws.drop k) = some ws[k] := by
  rw [List.drop_eq_getElem_cons h, wordIn, hp]
  simp

theorem RD.below {b : Nat} {c : Cm} {l : Bs} {w w' : World} (h : RD b c l w) (hb : Below w.heap.size w w') : RD b c l w' := (hb.block b (lt_of_blk h)).trans h

set_option maxRecDepth 100000 in
set_option maxHeartbeats 4000000 in
theorem name_word (b : Nat) (c : Cm) (x : UInt8) (t : Bs) (w : World) (h : RD b c (x :: t) w) (hl : (x :: t).length ≤ 1000) (hx1 : x ≠ 62) (hx2 : x ≠ 60)
    (hx3 : Lib.hasPrefix (x :: t) [38, 38] = false) (hx4 : List.contains [38, 126, 64, 61] x = false) :
    Calls Tryz.prog 10 #[.pointer (some ⟨b, 0, none⟩)] w (OrErr b (nameC c (x :: t)) 150 w) := by
  have HR := Lib.hid (show nameC c (x :: t) = match wordIn (x :: t) (wordsAt x) with
      | none => none
      | some p => some ({ c with name := p.2 }, (x :: t).drop p.1.length) by unfold nameC; simp only [hx1, hx2, hx3, hx4, or_self, if_false, Bool.false_eq_true])
  have c10 := h.c10
  have hb1 := lt_of_blk h
  have e62 : ((((⟨(x :: t).toArray⟩ : ByteArray)[0]'(head0 x t)).toNat : Int) == 62) = false := by
    show ((x.toNat : Int) == 62) = false
    rw [beq_eq_false_iff_ne]; intro he; exact hx1 (UInt8.toNat_inj.1 (by show x.toNat = 62; omega))
  have e60 : ((((⟨(x :: t).toArray⟩ : ByteArray)[0]'(head0 x t)).toNat : Int) == 60) = false := by
    show ((x.toNat : Int) == 60) = false
    rw [beq_eq_false_iff_ne]; intro he; exact hx2 (UInt8.toNat_inj.1 (by show x.toNat = 60; omega))
  have H3 := Lib.hid hx3
  have H4 := Lib.hid hx4
  clear hx1 hx2 hx3 hx4
  go_enter Tryz.func10, Tryz.ntmps10
  go_wp2_with fail
  refine (Tryz.strings_HasPrefix ⟨(x :: t).toArray⟩ ⟨#[38, 38]⟩ _).mono ?_
  rintro e w1 ⟨rfl, rfl⟩
  rw [show Lib.hasPrefix (⟨(x :: t).toArray⟩ : ByteArray).data.toList (⟨#[38, 38]⟩ : ByteArray).data.toList = false from H3.out]
  go_wp2_with fail
  refine (ib0 ⟨#[38, 126, 64, 61]⟩ x t _).mono ?_
  rintro e w2 ⟨⟨v, rfl, hv⟩, rfl⟩
  have hv' : ¬ 0 ≤ v := by
    have := hv.trans H4.out
    simpa using this
  clear hv
  go_wp2_with fail
  refine (words_any _).mono ?_
  rintro e w3 ⟨r, rfl, hB, hL⟩
  obtain ⟨vv, hv, A, rfl, hA⟩ := hL x
  have hw4 := wordsAt_len x
  generalize wordsAt x = ws at *
  have hv2 : (Instr.lookup 64 (.map (some r)) (.int .u8 (((⟨(x :: t).toArray⟩ : ByteArray)[0]'(head0 x t)).toNat : Int)) false).run Tryz.prog w3 = .ok (.slice A ws.length ws.length) w3 := hv
  clear hv hL
  go_wp2_with fail
  have h3 := h.below hB
  have hb3 := hB.size
  go_loopg [77] ws.length (fun g n wr => ∃ k : Nat, g + k = ws.length ∧ n = .int .i64 k ∧ wordIn (x :: t) (ws.drop k) = wordIn (x :: t) ws ∧ Below w3.heap.size w3 wr)
  case atStart => exact ⟨0, rfl, rfl, rfl, Below.refl _ _⟩
  case round =>
    obtain ⟨k, hg, rfl, hw, hBr⟩ := hrel
    have hR := h3.below hBr
    have k10 := hR.c10
    have hbr := hBr.size
    by_cases hk : k < ws.length
    · obtain ⟨g0, rfl, hg0⟩ := hA (by rintro rfl; simp at hk)
      have hgr := (hBr.block _ (lt_of_blk hg0)).trans hg0
      have hwc := wcells_at ws k hk
      have ca : wr.cell? ⟨g0, k * 2, none⟩ = some (.string ⟨(ws[k]).1.toArray⟩) := by rw [Lib.cell_of_heap hgr, Nat.mul_comm]; simpa using hwc.1
      have cb : wr.cell? ⟨g0, k * 2 + 1, none⟩ = some (.string ⟨(ws[k]).2.toArray⟩) := by rw [Lib.cell_of_heap hgr, Nat.mul_comm]; simpa using hwc.2
      clear hwc
      have hst := wordIn_step (x :: t) ws k hk
      have hhi := wordIn_hit (x :: t) ws k hk
      generalize ws[k] = p at *
      have hb4 : b < wr.heap.size := by omega
      go_wp2_with fail
      refine name_world (Q := fun W => Code.wp _ _ _ _ W) _ fun W hW => ?_
      have hR5 : RD b c (x :: t) W := by rw [hW]; exact hR.get0 _
      have hd5 : W.heap[wr.heap.size]? = some (.cells #[.string ⟨p.1.toArray⟩, .string ⟨p.2.toArray⟩] 67 (0, 0)) := by rw [hW]; exact blk_new _ _
      have hB5 : Below w3.heap.size w3 W := by rw [hW]; exact hBr.alloc hbr _
      clear hW
      have k10 := hR5.c10
      have d0 : W.cell? ⟨wr.heap.size, 0, none⟩ = some (.string ⟨p.1.toArray⟩) := by rw [Lib.cell_of_heap hd5]; rfl
      have hb5 := lt_of_blk hR5
      have hb6 := lt_of_blk hd5
      cases hp : Lib.hasPrefix (x :: t) p.1 with
      | true =>
        have hpl : p.1.length ≤ (x :: t).length := (List.isPrefixOf_iff_prefix.1 hp).length_le
        rw [hhi hp] at hw
        have hpc : ∀ V, Calls Tryz.prog 11 #[.string ⟨(x :: t).toArray⟩, .string ⟨p.1.toArray⟩] V fun e w' => e = .returned (.bool true) ∧ w' = V := fun V => by
          have := Tryz.strings_HasPrefix ⟨(x :: t).toArray⟩ ⟨p.1.toArray⟩ V
          rw [show Lib.hasPrefix (⟨(x :: t).toArray⟩ : ByteArray).data.toList (⟨p.1.toArray⟩ : ByteArray).data.toList = true from hp] at this
          exact this
        rw [← hw] at HR
        have HR' := HR
        simp only at HR'
        clear hst hhi hp hw
        refine wp_region_after_all (by kernel_rfl) (by kernel_rfl) ?_
        repeat (go_big_quiet_step ((go_at_call 11; exact After.calls_eq (hpc _))))
        refine wpQuiet_nil ?_
        intro _ hu
        obtain ⟨u, hu'⟩ := hu
        subst hu'
        have hR6 : RD b c (x :: t) u.w := u.get hR5
        have hd6 := u.get hd5
        have hB6 : Below w3.heap.size w3 u.w := hB5.trans (u.h.below (by omega) (fun _ _ c => c))
        generalize u.w = w6 at *
        have d0 : w6.cell? ⟨wr.heap.size, 0, none⟩ = some (.string ⟨p.1.toArray⟩) := by rw [Lib.cell_of_heap hd6]; rfl
        have d1 : w6.cell? ⟨wr.heap.size, 1, none⟩ = some (.string ⟨p.2.toArray⟩) := by rw [Lib.cell_of_heap hd6]; rfl
        go_wp2_with fail
        refine (cut_as b c _ _ hR6 _ p.1.length _ _ rfl rfl (by first | omega | (simp; omega)) hpl hl).mono ?_
        rintro e w7 ⟨rfl, h7, hm7⟩
        have d1 : w7.cell? ⟨wr.heap.size, 1, none⟩ = some (.string ⟨p.2.toArray⟩) := by rw [Lib.cell_of_heap (hm7.get hd6 (by omega))]; rfl
        have c1 := h7.c1
        have f1 := h7.fz 1
        go_wp2_with fail
        go_ret
        exact orErr_some HR'.out (h7.setName p.2) (((Mod.of_below (hB.trans (hB6.mono hb3))).trans hm7).set1 1 _)
      | false =>
        rw [hst hp] at hw
        have hpc : ∀ V, Calls Tryz.prog 11 #[.string ⟨(x :: t).toArray⟩, .string ⟨p.1.toArray⟩] V fun e w' => e = .returned (.bool false) ∧ w' = V := fun V => by
          have := Tryz.strings_HasPrefix ⟨(x :: t).toArray⟩ ⟨p.1.toArray⟩ V
          rw [show Lib.hasPrefix (⟨(x :: t).toArray⟩ : ByteArray).data.toList (⟨p.1.toArray⟩ : ByteArray).data.toList = false from hp] at this
          exact this
        clear hst hhi hp
        have hW := Lib.hid hw
        clear hw
        refine wp_region_after_all (by kernel_rfl) (by kernel_rfl) ?_
        repeat (go_big_quiet_step ((go_at_call 11; exact After.calls_eq (hpc _))))
        refine wpQuiet_nil ?_
        intro _ hu
        obtain ⟨u, hu'⟩ := hu
        subst hu'
        have hB6 : Below w3.heap.size w3 u.w := hB5.trans (u.h.below (by omega) (fun _ _ c => c))
        generalize u.w = w6 at *
        go_wp2_with fail
        go_roundg (gk - 1)
        case measure => omega
        case rel => exact ⟨k + 1, by omega, by simp, hW.out, hB6⟩
    · have hk' : ws.length ≤ k := by omega
      rw [List.drop_of_length_le hk', wordIn] at hw
      rw [← hw] at HR
      have HR' := HR
      simp only at HR'
      clear hw HR
      go_wp2_with fail
      go_ret
      exact orErr_none HR'.out (Mod.of_below (hB.trans (hBr.mono hb3)))

theorem prefix2 (x y : UInt8) (l : Bs) : Lib.hasPrefix l [x, y] = true → ∃ r, l = x :: y :: r := by
  intro h
  obtain ⟨r, rfl⟩ := List.isPrefixOf_iff_prefix.1 h
  exact ⟨r, rfl⟩

set_option maxRecDepth 100000 in
set_option maxHeartbeats 4000000 in
theorem name_sign (b : Nat) (c : Cm) (x : UInt8) (t : Bs) (w : World) (h : RD b c (x :: t) w) (hl : (x :: t).length ≤ 1000) (hx1 : x ≠ 62) (hx2 : x ≠ 60)
    (hx3 : Lib.hasPrefix (x :: t) [38, 38] = true ∨ List.contains [38, 126, 64, 61] x = true) :
    Calls Tryz.prog 10 #[.pointer (some ⟨b, 0, none⟩)] w (OrErr b (nameC c (x :: t)) 150 w) := by
  have c10 := h.c10
  have hb1 := lt_of_blk h
  have e62 : ((((⟨(x :: t).toArray⟩ : ByteArray)[0]'(head0 x t)).toNat : Int) == 62) = false := by
    show ((x.toNat : Int) == 62) = false
    rw [beq_eq_false_iff_ne]; intro he; exact hx1 (UInt8.toNat_inj.1 (by show x.toNat = 62; omega))
  have e60 : ((((⟨(x :: t).toArray⟩ : ByteArray)[0]'(head0 x t)).toNat : Int) == 60) = false := by
    show ((x.toNat : Int) == 60) = false
    rw [beq_eq_false_iff_ne]; intro he; exact hx2 (UInt8.toNat_inj.1 (by show x.toNat = 60; omega))
  cases hp : Lib.hasPrefix (x :: t) [38, 38] with
  | true =>
    have HR := Lib.hid (show nameC c (x :: t) = some ({ c with name := [38, 38] }, (x :: t).drop 2) by unfold nameC; simp only [hx1, hx2, hp, or_self, if_false, if_true])
    obtain ⟨r, hr⟩ := prefix2 _ _ _ hp
    have ht2 := Lib.hid (show (x :: t).take 2 = [38, 38] by rw [hr]; rfl)
    have hl2 : 2 ≤ (x :: t).length := by rw [hr]; simp
    have H3 := Lib.hid hp
    clear hx1 hx2 hx3 hp hr
    go_enter Tryz.func10, Tryz.ntmps10
    go_wp2_with fail
    refine (Tryz.strings_HasPrefix ⟨(x :: t).toArray⟩ ⟨#[38, 38]⟩ _).mono ?_
    rintro e w1 ⟨rfl, rfl⟩
    rw [show Lib.hasPrefix (⟨(x :: t).toArray⟩ : ByteArray).data.toList (⟨#[38, 38]⟩ : ByteArray).data.toList = true from H3.out]
    go_wp2_with fail
    refine (cut_as b c _ _ h 2 2 _ _ ht2.out rfl rfl hl2 hl).mono ?_
    rintro e w3 ⟨rfl, h3, hm3⟩
    have c1 := h3.c1
    have f1 := h3.fz 1
    go_wp2_with fail
    go_ret
    exact orErr_some HR.out (h3.setName [38, 38]) (hm3.set1 1 _)
  | false =>
    have hx4 := hx3.resolve_left (by rw [hp]; decide)
    have HR := Lib.hid (show nameC c (x :: t) = some ({ c with name := [x] }, t) by unfold nameC; simp only [hx1, hx2, hp, hx4, or_self, if_false, if_true, Bool.false_eq_true])
    have H3 := Lib.hid hp
    have H4 := Lib.hid hx4
    clear hx1 hx2 hx3 hp hx4
    go_enter Tryz.func10, Tryz.ntmps10
    go_wp2_with fail
    refine (Tryz.strings_HasPrefix ⟨(x :: t).toArray⟩ ⟨#[38, 38]⟩ _).mono ?_
    rintro e w1 ⟨rfl, rfl⟩
    rw [show Lib.hasPrefix (⟨(x :: t).toArray⟩ : ByteArray).data.toList (⟨#[38, 38]⟩ : ByteArray).data.toList = false from H3.out]
    go_wp2_with fail
    refine (ib0 ⟨#[38, 126, 64, 61]⟩ x t _).mono ?_
    rintro e w2 ⟨⟨v, rfl, hv⟩, rfl⟩
    have hv' : 0 ≤ v := by
      have := hv.trans H4.out
      simpa using this
    clear hv
    go_wp2_with fail
    refine (cut1_any b c x t _ h hl).mono ?_
    rintro e w3 ⟨rfl, h3, hm3⟩
    have c1 := h3.c1
    have f1 := h3.fz 1
    go_wp2_with fail
    go_ret
    exact orErr_some HR.out (h3.setName [x]) (hm3.set1 1 _)

set_option maxHeartbeats 4000000 in
theorem name_nil (b : Nat) (c : Cm) (w : World) (h : RD b c [] w) :
    Calls Tryz.prog 10 #[.pointer (some ⟨b, 0, none⟩)] w (OrErr b (nameC c []) 150 w) := by
  have c10 := h.c10
  go_enter Tryz.func10, Tryz.ntmps10
  go_wp2_with fail
  go_ret
  exact orErr_some rfl h (Mod.refl _ _)

theorem name_any (b : Nat) (c : Cm) (l : Bs) (w : World) (h : RD b c l w) (hl : l.length ≤ 1000) :
    Calls Tryz.prog 10 #[.pointer (some ⟨b, 0, none⟩)] w (OrErr b (nameC c l) 150 w) := by
  rcases l with _ | ⟨x, t⟩
  · exact name_nil b c w h
  · by_cases h1 : x = 62
    · exact name_angle b c x t w h hl (.inl h1)
    · by_cases h2 : x = 60
      · exact name_angle b c x t w h hl (.inr h2)
      · cases h3 : Lib.hasPrefix (x :: t) [38, 38] with
        | true => exact name_sign b c x t w h hl h1 h2 (.inl h3)
        | false =>
          cases h4 : List.contains [38, 126, 64, 61] x with
          | true => exact name_sign b c x t w h hl h1 h2 (.inr h4)
          | false => exact name_word b c x t w h hl h1 h2 h3 h4
end Go.Proofs.YthajagmccaaanaaGreatDoor
