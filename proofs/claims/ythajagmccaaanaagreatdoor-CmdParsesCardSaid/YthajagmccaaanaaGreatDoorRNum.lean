/- emendatorref15.Reader: number, in, flags, sign, part, sub. -/
import Derived.Test.YthajagmccaaanaaGreatDoorRRead
namespace Go.Proofs.YthajagmccaaanaaGreatDoor
open Go.RowKit

theorem at_p' (l : Bs) (j : Nat) (h : j < l.length) (h' : j < (⟨l.toArray⟩ : ByteArray).size) : (⟨l.toArray⟩ : ByteArray)[j]'h' = l[j] := by
  show l.toArray[j]'(by simpa using h) = _
  rw [List.getElem_toArray]
theorem ba_lt' {l : Bs} {j : Nat} (h : j < l.length) : j < (⟨l.toArray⟩ : ByteArray).size := by simpa [ByteArray.size] using h

set_option maxRecDepth 100000 in
set_option maxHeartbeats 4000000 in
theorem rnumberC_any (b : Nat) (c : Cm) (l0 : Bs) (w : World) (h : RR b c l0 0 w) (hl0 : l0.length ≤ 1000) :
    Calls Tryz.prog 49 #[.pointer (some ⟨b, 0, none⟩)] w fun x w' => x = .returned (.tuple #[]) ∧ ROr b (numberC c l0) 151 w w' := by
  have hbl := blanks_le l0
  have HN := Lib.hid (show numberC c l0 = (if 9 < (digs (blanks l0)).length then none else if (digs (blanks l0)).length = 0 then some (c, blanks l0) else some ({ c with count := (val (digs (blanks l0)) : Int) }, (blanks l0).drop (digs (blanks l0)).length)) from rfl)
  go_enter Tryz.func49, Tryz.ntmps49
  go_wp2_with fail
  refine (rrblanks_any b c l0 0 w h hl0).mono ?_
  rintro e w1 ⟨rfl, h1, hm1⟩
  obtain ⟨l, hl⟩ : ∃ l, blanks l0 = l := ⟨_, rfl⟩
  rw [hl] at h1 HN hbl
  have hl1 : l.length ≤ 1000 := by omega
  have HL := Lib.hid hl
  clear hl hbl
  go_wp2_with fail
  go_loopg [2, 3] (l.length + 1) (fun g n kk wr => ∃ k : Nat, l.length + 1 ≤ g + k ∧ k ≤ l.length ∧ k ≤ (digs l).length ∧ n = .int .i64 ((val (l.take (min k 9)) : Nat) : Int) ∧ kk = .int .i64 (k : Int) ∧ wr = w1)
  case atStart => exact ⟨0, by omega, by omega, Nat.zero_le _, rfl, rfl, rfl⟩
  case round =>
    obtain ⟨k, hgk, hk, hkd, rfl, rfl, hwr⟩ := hrel
    rw [hwr]
    clear hwr
    have c10 := h1.c10
    have hltb := lt_of_blk h1
    by_cases hlt : k < l.length
    · have hat := at_p' l k hlt (ba_lt' hlt)
      have hcall := fun V => ris_d8 ((⟨l.toArray⟩ : ByteArray)[k]'(ba_lt' hlt)) V
      cases hbk : isDig l[k] with
      | true =>
        have hs1 := digs_step l k hkd hlt hbk
        rw [hat, hbk] at hcall
        rw [← hat] at hcall
        simp only [isDig, decide_eq_true_eq] at hbk
        rw [← hat] at hbk
        obtain ⟨hd1, hd2⟩ := hbk
        have hd1' : (48 : Int) ≤ (((⟨l.toArray⟩ : ByteArray)[k]'(ba_lt' hlt)).toNat : Int) := by omega
        have hd2' : (((⟨l.toArray⟩ : ByteArray)[k]'(ba_lt' hlt)).toNat : Int) ≤ 57 := by omega
        have HA := Lib.hid hat
        clear hat
        by_cases h9 : k < 9
        · have hv := val_digs_lt l k hkd (by omega)
          have HV := Lib.hid (val_take l k hlt)
          have hmin : min k 9 = k := by omega
          rw [hmin]
          clear hmin
          generalize val (l.take k) = x at hv HV ⊢
          go_wp2_with fail
          refine (hcall w1).mono ?_
          rintro e w2 ⟨rfl, hw⟩
          obtain rfl : w1 = w2 := hw.symm
          go_wp2_with fail
          go_roundg (gk - 1)
          case measure => omega
          case rel =>
            refine ⟨k + 1, by omega, by omega, hs1, ?_, by go_num, rfl⟩
            rw [Nat.min_eq_left (by omega), HV.out, ← HA.out]
            exact congrArg _ (by omega)
        · have h9' : min k 9 = 9 := by omega
          rw [h9']
          have hk9 : (9 : Int) ≤ (k : Int) := by omega
          go_wp2_with fail
          refine (hcall w1).mono ?_
          rintro e w2 ⟨rfl, hw⟩
          obtain rfl : w1 = w2 := hw.symm
          go_wp2_with fail
          go_roundg (gk - 1)
          case measure => omega
          case rel => exact ⟨k + 1, by omega, by omega, hs1, by rw [show min (k + 1) 9 = 9 by omega], by go_num, rfl⟩
      | false =>
        have HS := Lib.hid (digs_stop l k hkd (fun _ => hbk))
        have e : isDig ((⟨l.toArray⟩ : ByteArray)[k]'(ba_lt' hlt)) = false := by rw [hat]; exact hbk
        rw [e] at hcall
        clear hat hbk e
        by_cases h9 : 9 < k
        · have HP := Lib.hid (show numberC c l0 = none by rw [HN.out, HS.out, if_pos h9])
          clear hkd
          go_wp2_with fail
          refine (hcall w1).mono ?_
          rintro e w2 ⟨rfl, hw⟩
          obtain rfl : w1 = w2 := hw.symm
          go_wp2_with fail
          refine (wrong_any b c l 0 151 w1 h1).mono ?_
          rintro e w2 ⟨rfl, h2, hm2⟩
          rw [if_pos rfl] at h2
          have c10 := h2.c10
          have f10 := h2.fz 10
          have c4 := h2.c4
          have f4 := h2.fz 4
          have HH := Lib.hid h2
          have hex := ex_drop l k
          go_wp2_with fail
          go_end0
          refine ⟨rfl, (((hm1.trans hm2).set1 4 _).set1 10 _), ?_⟩
          rw [HP.out]
          exact ⟨_, l.drop k, by simp; omega, (HH.out.setCount _).setRest _⟩
        by_cases h0 : 0 < k
        · have HP := Lib.hid (show numberC c l0 = some ({ c with count := (val (digs l) : Int) }, l.drop k) by rw [HN.out, HS.out, if_neg h9, if_neg (by omega)])
          have hmin : min k 9 = (digs l).length := by rw [HS.out]; omega
          rw [hmin, digs_take]
          clear hmin hkd
          have f10 := h1.fz 10
          have c4 := h1.c4
          have f4 := h1.fz 4
          have HH := Lib.hid h1
          have hex := ex_drop l k
          go_wp2_with fail
          refine (hcall w1).mono ?_
          rintro e w2 ⟨rfl, hw⟩
          obtain rfl : w1 = w2 := hw.symm
          go_wp2_with fail
          go_end0
          refine ⟨rfl, (hm1.set1 4 _).set1 10 _, ?_⟩
          rw [HP.out]
          exact (HH.out.setCount _).setRest _
        obtain rfl : k = 0 := by omega
        have HP := Lib.hid (show numberC c l0 = some (c, l) by rw [HN.out, HS.out]; rfl)
        clear hkd h9 h0
        have f10 := h1.fz 10
        have HH := Lib.hid h1
        have hex := ex_drop l 0
        go_wp2_with fail
        refine (hcall w1).mono ?_
        rintro e w2 ⟨rfl, hw⟩
        obtain rfl : w1 = w2 := hw.symm
        go_wp2_with fail
        go_end0
        refine ⟨rfl, hm1.set1 10 _, ?_⟩
        rw [HP.out]
        exact HH.out.setRest _
    · have HS := Lib.hid (digs_stop l k hkd (fun h => absurd h (by omega)))
      by_cases h9 : 9 < k
      · have HP := Lib.hid (show numberC c l0 = none by rw [HN.out, HS.out, if_pos h9])
        clear hkd
        go_wp2_with fail
        refine (wrong_any b c l 0 151 w1 h1).mono ?_
        rintro e w2 ⟨rfl, h2, hm2⟩
        rw [if_pos rfl] at h2
        have c10 := h2.c10
        have f10 := h2.fz 10
        have c4 := h2.c4
        have f4 := h2.fz 4
        have HH := Lib.hid h2
        have hex := ex_drop l k
        go_wp2_with fail
        go_end0
        refine ⟨rfl, (((hm1.trans hm2).set1 4 _).set1 10 _), ?_⟩
        rw [HP.out]
        exact ⟨_, l.drop k, by simp; omega, (HH.out.setCount _).setRest _⟩
      by_cases h0 : 0 < k
      · have HP := Lib.hid (show numberC c l0 = some ({ c with count := (val (digs l) : Int) }, l.drop k) by rw [HN.out, HS.out, if_neg h9, if_neg (by omega)])
        have hmin : min k 9 = (digs l).length := by rw [HS.out]; omega
        rw [hmin, digs_take]
        clear hmin hkd
        have f10 := h1.fz 10
        have c4 := h1.c4
        have f4 := h1.fz 4
        have HH := Lib.hid h1
        have hex := ex_drop l k
        go_wp2_with fail
        go_end0
        refine ⟨rfl, (hm1.set1 4 _).set1 10 _, ?_⟩
        rw [HP.out]
        exact (HH.out.setCount _).setRest _
      obtain rfl : k = 0 := by omega
      have HP := Lib.hid (show numberC c l0 = some (c, l) by rw [HN.out, HS.out]; rfl)
      clear hkd h9 h0
      have f10 := h1.fz 10
      have HH := Lib.hid h1
      have hex := ex_drop l 0
      go_wp2_with fail
      go_end0
      refine ⟨rfl, hm1.set1 10 _, ?_⟩
      rw [HP.out]
      exact HH.out.setRest _

theorem eqF' {a b : UInt8} (h : a ≠ b) : ((a.toNat : Int) == (b.toNat : Int)) = false := by
  rw [beq_eq_false_iff_ne]
  intro c
  exact h (UInt8.toNat_inj.1 (by omega))
theorem eqT' {a b : UInt8} (h : a = b) : ((a.toNat : Int) == (b.toNat : Int)) = true := by rw [h]; simp

set_option maxRecDepth 100000 in
set_option maxHeartbeats 2000000 in
theorem rin_any (l : Bs) (x : UInt8) (w : World) (hl : l.length ≤ 1000) :
    Calls Tryz.prog 46 #[.string ⟨l.toArray⟩, .int .u8 (x.toNat : Int)] w fun e w' => e = .returned (.bool (l.contains x)) ∧ w' = w := by
  go_enter Tryz.func46, Tryz.ntmps46
  go_wp2_with fail
  go_loopg [5] (l.length + 1) (fun g ii wr => ∃ k : Nat, l.length + 1 ≤ g + k ∧ k ≤ l.length ∧ ii = .int .i64 (k : Int) ∧ (∀ j (h : j < l.length), j < k → l[j] ≠ x) ∧ wr = w)
  case atStart => exact ⟨0, by omega, by omega, rfl, fun j _ h => absurd h (Nat.not_lt_zero _), rfl⟩
  case round =>
    obtain ⟨k, hgk, hk, rfl, hall, hwr⟩ := hrel
    rw [hwr]
    clear hwr
    have HA := Lib.hid hall
    clear hall
    by_cases hlt : k < l.length
    · have hat := at_p' l k hlt (ba_lt' hlt)
      by_cases he : l[k] = x
      · have e1 : (((⟨l.toArray⟩ : ByteArray)[k]'(ba_lt' hlt)).toNat : Int) == (x.toNat : Int) := by rw [hat]; exact eqT' he
        have hc : l.contains x = true := by rw [List.contains_iff_mem]; exact he ▸ List.getElem_mem hlt
        have HC := Lib.hid hc
        clear hat he hc
        go_wp2_with fail
        go_ret
        exact ⟨ret_bool HC.out.symm, rfl⟩
      · have e1 : ((((⟨l.toArray⟩ : ByteArray)[k]'(ba_lt' hlt)).toNat : Int) == (x.toNat : Int)) = false := by rw [hat]; exact eqF' he
        have HE := Lib.hid he
        clear hat he
        go_wp2_with fail
        go_roundg (gk - 1)
        case measure => omega
        case rel =>
          refine ⟨k + 1, by omega, by omega, by go_num, fun j h hj => ?_, rfl⟩
          by_cases hjk : j = k
          · subst hjk; exact HE.out
          · exact HA.out j h (by omega)
    · have hc : l.contains x = false := by
        rw [← Bool.not_eq_true, List.contains_iff_mem]
        intro hm
        obtain ⟨j, hj, e⟩ := List.mem_iff_getElem.1 hm
        exact HA.out j hj (by omega) e
      have HC := Lib.hid hc
      clear hc
      go_wp2_with fail
      go_ret
      exact ⟨ret_bool HC.out.symm, rfl⟩

theorem flags_step (l : Bs) : ∀ k, k ≤ (flagsL l).length → ∀ h : k < l.length, isFlag l[k] = true → k + 1 ≤ (flagsL l).length := by
  induction l with
  | nil => intro k _ h; simp at h
  | cons c l ih =>
    intro k hk h hd
    unfold flagsL at hk ⊢
    rw [List.takeWhile_cons] at hk ⊢
    cases k with
    | zero => simp at hd; simp [hd]
    | succ k =>
      split at hk
      · rename_i hc
        rw [if_pos hc]
        simp at hk hd ⊢
        exact ih k hk (by simpa using h) hd
      · simp at hk
theorem flags_stop (l : Bs) : ∀ k, k ≤ (flagsL l).length → (∀ h : k < l.length, isFlag l[k] = false) → (flagsL l).length = k := by
  induction l with
  | nil => intro k hk _; simp [flagsL] at hk ⊢; omega
  | cons c l ih =>
    intro k hk h
    unfold flagsL at hk ⊢
    rw [List.takeWhile_cons] at hk ⊢
    cases k with
    | zero => have := h (by simp); simp at this; simp [this]
    | succ k =>
      split at hk
      · rename_i hc
        rw [if_pos hc]
        simp at hk ⊢
        exact ih k hk (fun h' => by have := h (by simp; omega); simpa using this)
      · simp at hk

set_option maxRecDepth 100000 in
set_option maxHeartbeats 4000000 in
theorem rflags_any (b : Nat) (c : Cm) (l0 : Bs) (w : World) (h : RR b c l0 0 w) (hl0 : l0.length ≤ 1000) :
    Calls Tryz.prog 52 #[.pointer (some ⟨b, 0, none⟩)] w fun x w' => x = .returned (.tuple #[]) ∧ ROr b (flaggedC c l0) 151 w w' := by
  have hbl := blanks_le l0
  have HN := Lib.hid (show flaggedC c l0 = numberC { c with flags := flagsL (blanks l0) } ((blanks l0).drop (flagsL (blanks l0)).length) from rfl)
  go_enter Tryz.func52, Tryz.ntmps52
  go_wp2_with fail
  refine (rrblanks_any b c l0 0 w h hl0).mono ?_
  rintro e w1 ⟨rfl, h1, hm1⟩
  obtain ⟨l, hl⟩ : ∃ l, blanks l0 = l := ⟨_, rfl⟩
  rw [hl] at h1 HN hbl
  have hl1 : l.length ≤ 1000 := by omega
  clear hl hbl
  go_wp2_with fail
  go_loopg [2] (l.length + 1) (fun g n wr => ∃ k : Nat, l.length + 1 ≤ g + k ∧ k ≤ l.length ∧ k ≤ (flagsL l).length ∧ n = .int .i64 (k : Int) ∧ wr = w1)
  case atStart => exact ⟨0, by omega, by omega, Nat.zero_le _, rfl, rfl⟩
  case round =>
    obtain ⟨k, hgk, hk, hkd, rfl, hwr⟩ := hrel
    rw [hwr]
    clear hwr
    have c10 := h1.c10
    have hltb := lt_of_blk h1
    by_cases hlt : k < l.length
    · have hat := at_p' l k hlt (ba_lt' hlt)
      have hcall := fun V => rin_any [38, 99, 101, 103, 105, 73, 110] ((⟨l.toArray⟩ : ByteArray)[k]'(ba_lt' hlt)) V (by decide)
      cases hbk : isFlag l[k] with
      | true =>
        have hs1 := flags_step l k hkd hlt hbk
        have e : ([38, 99, 101, 103, 105, 73, 110] : Bs).contains ((⟨l.toArray⟩ : ByteArray)[k]'(ba_lt' hlt)) = true := by rw [hat]; exact hbk
        rw [e] at hcall
        clear hat hbk e
        go_wp2_with fail
        refine (hcall w1).mono ?_
        rintro e w2 ⟨rfl, hw⟩
        obtain rfl : w1 = w2 := hw.symm
        go_wp2_with fail
        go_roundg (gk - 1)
        case measure => omega
        case rel => exact ⟨k + 1, by omega, by omega, hs1, by go_num, rfl⟩
      | false =>
        have HS := Lib.hid (flags_stop l k hkd (fun _ => hbk))
        have e : ([38, 99, 101, 103, 105, 73, 110] : Bs).contains ((⟨l.toArray⟩ : ByteArray)[k]'(ba_lt' hlt)) = false := by rw [hat]; exact hbk
        rw [e] at hcall
        clear hat hbk e hkd
        have HN2 := Lib.hid (show flaggedC c l0 = numberC { c with flags := l.take k } (l.drop k) by rw [HN.out, ← flags_take l, HS.out, List.length_take, Nat.min_eq_left hk])
        have c8 := h1.c8
        have f8 := h1.fz 8
        have f10 := h1.fz 10
        have HH := Lib.hid h1
        have hex := ex_drop l k
        have hex2 := ex_take l k
        go_wp2_with fail
        refine (hcall w1).mono ?_
        rintro e w2 ⟨rfl, hw⟩
        obtain rfl : w1 = w2 := hw.symm
        go_wp2_with fail
        refine (rnumberC_any b { c with flags := l.take k } (l.drop k) _ (by exact (HH.out.setFlags _).setRest _) (by simp; omega)).mono ?_
        rintro e w3 ⟨rfl, hm3, hor⟩
        go_wp2_with fail
        go_end0
        refine ⟨rfl, Mod.trans ((hm1.set1 8 _).set1 10 _) hm3, ?_⟩
        rw [HN2.out]
        exact hor
    · have HS := Lib.hid (flags_stop l k hkd (fun h => absurd h (by omega)))
      have HN2 := Lib.hid (show flaggedC c l0 = numberC { c with flags := l.take k } (l.drop k) by rw [HN.out, ← flags_take l, HS.out, List.length_take, Nat.min_eq_left hk])
      clear hkd
      have c8 := h1.c8
      have f8 := h1.fz 8
      have f10 := h1.fz 10
      have HH := Lib.hid h1
      have hex := ex_drop l k
      have hex2 := ex_take l k
      go_wp2_with fail
      refine (rnumberC_any b { c with flags := l.take k } (l.drop k) _ (by exact (HH.out.setFlags _).setRest _) (by simp; omega)).mono ?_
      rintro e w3 ⟨rfl, hm3, hor⟩
      go_wp2_with fail
      go_end0
      refine ⟨rfl, Mod.trans ((hm1.set1 8 _).set1 10 _) hm3, ?_⟩
      rw [HN2.out]
      exact hor

set_option maxRecDepth 100000 in
set_option maxHeartbeats 4000000 in
theorem rsign_any (b : Nat) (c : Cm) (l : Bs) (w : World) (h : RR b c l 0 w) (hl : l.length ≤ 1000) :
    Calls Tryz.prog 72 #[.pointer (some ⟨b, 0, none⟩)] w fun x w' => x = .returned (.bool (signC l).isSome) ∧ RR b c (blanks l) 0 w' ∧ Mod (· = b) w w' := by
  cases hb : blanks l with
  | nil =>
    have hs : (signC l).isSome = false := by unfold signC; rw [hb]; rfl
    rw [hs]
    go_enter Tryz.func72, Tryz.ntmps72
    go_wp2_with fail
    refine (rrblanks_any b c l 0 w h hl).mono ?_
    rintro e w1 ⟨rfl, h1, hm1⟩
    rw [hb] at h1
    have c10 := h1.c10
    have hltb := lt_of_blk h1
    have HH := Lib.hid h1
    clear hb hs
    go_wp2_with fail
    go_ret
    exact ⟨rfl, HH.out, hm1⟩
  | cons y t =>
    have hA := fun V => ris_a0 y t V
    have hD := fun V => ris_d0 y t V
    have hI := fun V => rin_any [34, 124, 92, 38, 35, 33] ((⟨(y :: t).toArray⟩ : ByteArray)[0]'(head0 y t)) V (by decide)
    have hI' : ([34, 124, 92, 38, 35, 33] : Bs).contains ((⟨(y :: t).toArray⟩ : ByteArray)[0]'(head0 y t)) = noSign y := rfl
    rw [hI'] at hI
    clear hI'
    have hsg : (signC l).isSome = isSign y := by
      unfold signC
      rw [hb]
      simp only
      cases isSign y <;> rfl
    rw [hsg]
    cases ha : ltr (y.toNat : Int) with
    | true =>
      have hs : isSign y = false := by unfold isSign; rw [ha]; rfl
      rw [hs]
      rw [ha] at hA
      go_enter Tryz.func72, Tryz.ntmps72
      go_wp2_with fail
      refine (rrblanks_any b c l 0 w h hl).mono ?_
      rintro e w1 ⟨rfl, h1, hm1⟩
      rw [hb] at h1
      have c10 := h1.c10
      have hltb := lt_of_blk h1
      have HH := Lib.hid h1
      clear hb hs hsg ha
      go_wp2_with fail
      refine (hA w1).mono ?_
      rintro e w2 ⟨rfl, hw⟩
      obtain rfl : w1 = w2 := hw.symm
      go_wp2_with fail
      go_ret
      exact ⟨rfl, HH.out, hm1⟩
    | false =>
      rw [ha] at hA
      cases hd : isDig y with
      | true =>
        have hs : isSign y = false := by unfold isSign; rw [ha, hd]; rfl
        rw [hs]
        rw [hd] at hD
        go_enter Tryz.func72, Tryz.ntmps72
        go_wp2_with fail
        refine (rrblanks_any b c l 0 w h hl).mono ?_
        rintro e w1 ⟨rfl, h1, hm1⟩
        rw [hb] at h1
        have c10 := h1.c10
        have hltb := lt_of_blk h1
        have HH := Lib.hid h1
        clear hb hs hsg ha hd
        go_wp2_with fail
        refine (hA w1).mono ?_
        rintro e w2 ⟨rfl, hw⟩
        obtain rfl : w1 = w2 := hw.symm
        go_wp2_with fail
        refine (hD w1).mono ?_
        rintro e w2 ⟨rfl, hw⟩
        obtain rfl : w1 = w2 := hw.symm
        go_wp2_with fail
        go_ret
        exact ⟨rfl, HH.out, hm1⟩
      | false =>
        rw [hd] at hD
        have hs : isSign y = !noSign y := by unfold isSign; rw [ha, hd]; rfl
        rw [hs]
        generalize noSign y = z at *
        go_enter Tryz.func72, Tryz.ntmps72
        go_wp2_with fail
        refine (rrblanks_any b c l 0 w h hl).mono ?_
        rintro e w1 ⟨rfl, h1, hm1⟩
        rw [hb] at h1
        have c10 := h1.c10
        have hltb := lt_of_blk h1
        have HH := Lib.hid h1
        clear hb hs hsg ha hd
        go_wp2_with fail
        refine (hA w1).mono ?_
        rintro e w2 ⟨rfl, hw⟩
        obtain rfl : w1 = w2 := hw.symm
        go_wp2_with fail
        refine (hD w1).mono ?_
        rintro e w2 ⟨rfl, hw⟩
        obtain rfl : w1 = w2 := hw.symm
        go_wp2_with fail
        refine (hI w1).mono ?_
        rintro e w2 ⟨rfl, hw⟩
        obtain rfl : w1 = w2 := hw.symm
        go_wp2_with fail
        go_ret
        exact ⟨rfl, HH.out, hm1⟩

set_option maxRecDepth 100000 in
set_option maxHeartbeats 2000000 in
theorem rpart_any (b : Nat) (c : Cm) (l : Bs) (x : UInt8) (w : World) (h : RR b c l 0 w) (hl : l.length ≤ 1000) :
    Calls Tryz.prog 73 #[.pointer (some ⟨b, 0, none⟩), .int .u8 (x.toNat : Int)] w fun e w' => e = .returned (.string ⟨(splitL x l).1.toArray⟩) ∧ RR b c (l.drop (splitL x l).2) 0 w' ∧ Mod (· = b) w w' := by
  have hsl := splitL_len x _ l (Nat.le_refl _)
  have c10 := h.c10
  have hltb := lt_of_blk h
  have HH := Lib.hid h
  have hsp := rsplit_any ⟨l.toArray⟩ 0 x w (by omega) (by simp [ByteArray.size]; omega)
  simp only [List.drop_zero, Nat.zero_add] at hsp
  generalize splitL x l = q at *
  obtain ⟨q1, q2⟩ := q
  simp only at hsl hsp ⊢
  go_enter Tryz.func73, Tryz.ntmps73
  go_wp2_with fail
  refine (hsp).mono ?_
  rintro e w1 ⟨rfl, hb1⟩
  have h1 : RR b c l 0 w1 := HH.out.mod (Mod.of_below (S := fun _ => False) hb1) (fun c => c)
  have c10 := h1.c10
  have f10 := h1.fz 10
  have HH1 := Lib.hid h1
  have hex := ex_drop l q2
  go_wp2_with fail
  go_ret
  exact ⟨rfl, HH1.out.setRest _, (Mod.of_below hb1).set1 10 _⟩
end Go.Proofs.YthajagmccaaanaaGreatDoor
