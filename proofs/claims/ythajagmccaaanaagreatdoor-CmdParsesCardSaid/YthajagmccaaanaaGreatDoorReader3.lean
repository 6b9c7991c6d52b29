/- cmd.reader: sign, dest, number, flagged. -/
import Derived.Test.YthajagmccaaanaaGreatDoorReader2
namespace Go.Proofs.YthajagmccaaanaaGreatDoor
open Go.RowKit

def noSign (x : UInt8) : Bool := [34, 124, 92, 38, 35, 33].contains x
def isSign (x : UInt8) : Bool := !(ltr (x.toNat : Int) || isDig x || noSign x)
def signC (l : Bs) : Option (UInt8 × Bs) :=
  match blanks l with
  | [] => none
  | x :: t => if isSign x then some (x, t) else none

def SignPost (b : Nat) (c : Cm) (l : Bs) (w : World) (e : Ending) (w' : World) : Prop :=
  Mod (· = b) w w' ∧ match signC l with
  | none => e = .returned (.tuple #[.int .u8 0, .bool false]) ∧ RD b c (blanks l) w'
  | some (x, t) => e = .returned (.tuple #[.int .u8 x.toNat, .bool true]) ∧ RD b c t w'
theorem signPost_none {b : Nat} {c : Cm} {l : Bs} {w w' : World} (h : signC l = none) (hr : RD b c (blanks l) w') (hm : Mod (· = b) w w') : SignPost b c l w (.returned (.tuple #[.int .u8 0, .bool false])) w' := by
  unfold SignPost; rw [h]; exact ⟨hm, rfl, hr⟩
theorem signPost_some {b : Nat} {c : Cm} {l : Bs} {w w' : World} {x : UInt8} {t : Bs} (h : signC l = some (x, t)) (hr : RD b c t w') (hm : Mod (· = b) w w') : SignPost b c l w (.returned (.tuple #[.int .u8 x.toNat, .bool true])) w' := by
  unfold SignPost; rw [h]; exact ⟨hm, rfl, hr⟩

theorem is_a0 (x : UInt8) (t : Bs) (w : World) : Calls Tryz.prog 60 #[.int .u8 97, .int .u8 ((⟨(x :: t).toArray⟩ : ByteArray)[0]'(head0 x t)).toNat] w fun e w' => e = .returned (.bool (ltr (x.toNat : Int))) ∧ w = w' :=
  is_a (x.toNat : Int) w
theorem ib0 (s : ByteArray) (x : UInt8) (t : Bs) (w : World) : Calls Tryz.prog 28 #[.string s, .int .u8 ((⟨(x :: t).toArray⟩ : ByteArray)[0]'(head0 x t)).toNat] w fun e w' => (∃ v : Int, e = .returned (.int .i64 v) ∧ decide (0 ≤ v) = s.data.toList.contains x) ∧ w = w' := by
  refine (Tryz.strings_IndexByte s (x.toNat : Int) w).mono ?_
  rintro e w' ⟨rfl, rfl⟩
  refine ⟨⟨_, rfl, ?_⟩, rfl⟩
  rw [indexByte_mem]
  simp

set_option maxHeartbeats 1000000 in
theorem sign_any (b : Nat) (c : Cm) (l : Bs) (w : World) (h : RD b c l w) (hl : l.length ≤ 1000) :
    Calls Tryz.prog 61 #[.pointer (some ⟨b, 0, none⟩)] w (SignPost b c l w) := by
  have hbl := blanks_le l
  go_enter Tryz.func61, Tryz.ntmps61
  go_wp2_with fail
  refine (skip_any b c l _ h).mono ?_
  rintro e w1 ⟨rfl, h1, hm1⟩
  have h1' := h1
  rcases hb : blanks l with _ | ⟨x, t⟩
  · rw [hb] at h1
    have HR := Lib.hid (show signC l = none by unfold signC; rw [hb])
    have c10 := h1.c10
    clear hb
    go_wp2_with fail
    go_ret2
    exact signPost_none HR.out h1' hm1
  · rw [hb] at h1 hbl
    have c10 := h1.c10
    by_cases hs : isSign x = true
    · have HR := Lib.hid (show signC l = some (x, t) by unfold signC; rw [hb]; simp only [hs, if_true])
      have hs' := hs
      unfold isSign noSign at hs'
      simp only [Bool.not_eq_true', Bool.or_eq_false_iff] at hs'
      have H1 := Lib.hid hs'.1.1
      have H2 := Lib.hid hs'.1.2
      have H3 := Lib.hid hs'.2
      clear hb hs hs'
      go_wp2_with fail
      refine (is_a0 x t _).mono ?_
      rw [H1.out]
      rintro e w2 ⟨rfl, rfl⟩
      go_wp2_with fail
      refine (is_d0 x t _).mono ?_
      rw [H2.out]
      rintro e w2 ⟨rfl, rfl⟩
      go_wp2_with fail
      refine (ib0 ⟨#[34, 124, 92, 38, 35, 33]⟩ x t _).mono ?_
      rintro e w2 ⟨⟨v, rfl, hv⟩, rfl⟩
      have hv' : ¬ 0 ≤ v := by
        have := hv.trans H3.out
        simpa using this
      clear hv
      go_wp2_with (go_at_call 13; refine (cut1_any b c x t _ h1 (by omega)).mono ?_; rintro e w2 ⟨rfl, h2, hm2⟩)
      go_ret2
      exact signPost_some HR.out h2 (hm1.trans hm2)
    · have HR := Lib.hid (show signC l = none by unfold signC; rw [hb]; simp only [hs, if_false, Bool.false_eq_true])
      have hs' := hs
      unfold isSign noSign at hs'
      clear hb hs
      cases e1 : ltr (x.toNat : Int) with
      | true =>
        have H1 := Lib.hid e1
        clear e1 hs'
        go_wp2_with (go_at_call 60; refine (is_a0 x t _).mono ?_; rw [H1.out]; rintro e w2 ⟨rfl, rfl⟩)
        go_ret2
        exact signPost_none HR.out h1' hm1
      | false =>
        have H1 := Lib.hid e1
        clear e1
        go_wp2_with fail
        refine (is_a0 x t _).mono ?_
        rw [H1.out]
        rintro e w2 ⟨rfl, rfl⟩
        cases e2 : isDig x with
        | true =>
          have H2 := Lib.hid e2
          clear e2 hs'
          go_wp2_with fail
          refine (is_d0 x t _).mono ?_
          rw [H2.out]
          rintro e w2 ⟨rfl, rfl⟩
          go_wp2_with fail
          go_ret2
          exact signPost_none HR.out h1' hm1
        | false =>
          have H2 := Lib.hid e2
          rw [H1.out, e2] at hs'
          have H3 := Lib.hid (show [34, 124, 92, 38, 35, 33].contains x = true by
            cases hcx : ([34, 124, 92, 38, 35, 33] : List UInt8).contains x with
            | true => rfl
            | false => rw [hcx] at hs'; exact absurd rfl hs')
          clear e2 hs'
          go_wp2_with fail
          refine (is_d0 x t _).mono ?_
          rw [H2.out]
          rintro e w2 ⟨rfl, rfl⟩
          go_wp2_with fail
          refine (ib0 ⟨#[34, 124, 92, 38, 35, 33]⟩ x t _).mono ?_
          rintro e w2 ⟨⟨v, rfl, hv⟩, rfl⟩
          have hv' : 0 ≤ v := by
            have := hv.trans H3.out
            simpa using this
          clear hv
          go_wp2_with fail
          go_ret2
          exact signPost_none HR.out h1' hm1

/-- Where to: an error's number, or the list as a value. -/
def DestPost (b : Nat) (c : Cm) (l : Bs) (w : World) (e : Ending) (w' : World) : Prop :=
  Mod (· = b) w w' ∧ match rangeL l with
  | none => e = .returned (.int .u16 141)
  | some (ads, r) => if ads.length = 1 then e = .returned (.int .u16 0) ∧ ∃ v, RD b { c with dv := v } r w' ∧ AdsV w.heap.size v ads w' else e = .returned (.int .u16 141)

set_option maxHeartbeats 1000000 in
theorem dest_any (b : Nat) (c : Cm) (l : Bs) (w : World) (h : RD b c l w) (hl : l.length ≤ 1000) :
    Calls Tryz.prog 34 #[.pointer (some ⟨b, 0, none⟩)] w (DestPost b c l w) := by
  have c10 := h.c10
  have hlt := lt_of_blk h
  go_enter Tryz.func34, Tryz.ntmps34
  go_wp2_with fail
  refine (parse_any ⟨l.toArray⟩ _ (by simpa [ByteArray.size] using hl)).mono ?_
  intro e w1 hp
  obtain ⟨hb, hp⟩ := hp
  have h1 : RD b c l w1 := h.mod (Mod.of_below (S := fun _ => False) hb) (fun c => c)
  have hm1 : Mod (· = b) w w1 := Mod.of_below hb
  simp only at hp
  rcases hr : rangeL l with _ | ⟨ads, r⟩
  · rw [hr] at hp
    have HD := Lib.hid (show ∀ w', Mod (· = b) w w' → DestPost b c l w (.returned (.int .u16 141)) w' from fun w' hm => by unfold DestPost; rw [hr]; exact ⟨hm, rfl⟩)
    subst hp
    clear hr
    go_wp2_with fail
    go_ret
    exact HD.out _ hm1
  · rw [hr] at hp
    obtain ⟨v, rfl, hv, k, hk, hrk⟩ := hp
    obtain ⟨pv, cv, rfl⟩ := hv.shape
    have hrl : r.length = l.length - k := by rw [hrk]; simp
    have hkl : k ≤ l.length := by simpa [ByteArray.size] using hk
    by_cases h1l : ads.length = 1
    · have HD := Lib.hid (show ∀ w', Mod (· = b) w w' → RD b { c with dv := .slice pv ads.length cv } r w' → AdsV w.heap.size (.slice pv ads.length cv) ads w' → DestPost b c l w (.returned (.int .u16 0)) w' from fun w' hm h1 h2 => by unfold DestPost; rw [hr]; refine ⟨hm, ?_⟩; show (if ads.length = 1 then _ else _); rw [if_pos h1l]; exact ⟨rfl, _, h1, h2⟩)
      have e1 : ((ads.length : Int) != 1) = false := by rw [h1l]; rfl
      have HK := Lib.hid (show r = l.drop k from hrk)
      have c5 := h1.c5
      have f5 := h1.fz 5
      clear hr hrk h1l
      go_wp2_with fail
      refine (cut_any b { c with dv := .slice pv ads.length cv } l _ (h1.setDv _) _ k (by first | omega | (simp [ByteArray.size]; omega)) hkl hl).mono ?_
      rintro e w2 ⟨rfl, h2, hm2⟩
      rw [← HK.out] at h2
      go_wp2_with fail
      go_ret
      exact HD.out _ ((hm1.set1 5 _).trans hm2) h2 ((hv.mod (Mod.trans ((Mod.refl (· = b) _).set1 5 _) hm2) (fun j hj c => by omega)))
    · have HD := Lib.hid (show ∀ w', Mod (· = b) w w' → DestPost b c l w (.returned (.int .u16 141)) w' from fun w' hm => by unfold DestPost; rw [hr]; refine ⟨hm, ?_⟩; show (if ads.length = 1 then _ else _); rw [if_neg h1l])
      have e1 : ((ads.length : Int) != 1) = true := by rw [bne_iff_ne]; omega
      clear hr hrk h1l
      go_wp2_with fail
      go_ret
      exact HD.out _ hm1
end Go.Proofs.YthajagmccaaanaaGreatDoor
