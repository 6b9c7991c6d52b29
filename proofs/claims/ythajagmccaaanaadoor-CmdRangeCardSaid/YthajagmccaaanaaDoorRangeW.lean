/- emendatorlaw15.CmdRange: the walk. -/
import Derived.Test.YthajagmccaaanaaDoorDigits
namespace Go.Proofs.YthajagmccaaanaaDoor
open Go.RowKit

theorem cat6 (a b s : Bs) : ((⟨#[32, 58]⟩ : ByteArray) ++ ⟨a.toArray⟩ ++ ⟨#[32, 44, 32]⟩ ++ ⟨b.toArray⟩ ++ ⟨#[32]⟩ ++ ⟨s.toArray⟩) = ⟨(32 :: 58 :: (a ++ 32 :: 44 :: 32 :: (b ++ 32 :: s))).toArray⟩ := by
  rw [show (⟨#[32, 58]⟩ : ByteArray) = ⟨([32, 58] : Bs).toArray⟩ from rfl, show (⟨#[32, 44, 32]⟩ : ByteArray) = ⟨([32, 44, 32] : Bs).toArray⟩ from rfl, show (⟨#[32]⟩ : ByteArray) = ⟨([32] : Bs).toArray⟩ from rfl]
  simp only [ByteArray.mk_append_mk]
  simp
theorem letter_ads {y : UInt8} {r : Bs} (h1 : starts y = true) (h2 : (y :: r).length ≤ 1000) {v : Value} {c : Cm} {ads dst : List Ad} (h : parseR v (y :: r) = .ok (c, ads, dst)) : ads = [] := by
  rw [parseR_letter h1 h2] at h
  unfold bodyL at h
  split at h
  · cases h
  · exact (endL_ok h).choose_spec.2.1

set_option maxRecDepth 100000 in
set_option maxHeartbeats 4000000 in
theorem range_let (y : UInt8) (r : Bs) (hl : (y :: r).length ≤ 300) (hst : starts y = true) (hy1 : 97 ≤ ((⟨(y :: r).toArray⟩ : ByteArray)[0]'(head0 y r)).toNat) (hy2 : ((⟨(y :: r).toArray⟩ : ByteArray)[0]'(head0 y r)).toNat ≤ 122) (f t : Nat) (hf : f ≤ 65535) (ht : t ≤ 65535) (w : World) (hk : Kn w) :
    Calls Tryd.prog 7 #[.string ⟨(y :: r).toArray⟩, .int .u16 (f : Int), .int .u16 (t : Int)] w fun e w' => e = .returned (.bool true) ∧ Below w.heap.size w w' := by
  have hl2 : r.length + 1 ≤ 300 := by simpa using hl
  have hne : ((r.length : Int) + 1 == 0) = false := by rw [beq_eq_false_iff_ne]; omega
  have hdf := digL_len 8 f (by omega)
  have hdt := digL_len 8 t (by omega)
  go_enter Tryd.func7, Tryd.ntmps7
  go_wp2_with fail
  refine (known_any w hk).mono ?_
  rintro e w1 ⟨rfl, hb⟩
  have hk1 := hk.below hb
  have hsz := hb.size
  go_wp2_with fail
  have hcat := cat6 (digL f) (digL t) (y :: r)
  have hsame := fun v => range_two (a := f) (b := t) (by omega) (by omega) hst r hl v
  rcases parse_cases (y :: r) with ⟨n, hp⟩ | ⟨c, ads, dst, hp⟩
  · have hn := parseR_err (hp .nilFunc)
    refine (parse_err w1 hk1 (by omega) hp).mono ?_
    rintro e w2 ⟨hb2, rfl⟩
    have hB2 := hb.trans (hb2.mono hsz)
    have hs2 := hB2.size
    go_wp2_with fail
    refine name_world (Q := fun W1 => Calls _ _ _ W1 _) _ fun W1 hW1 => ?_
    have hB3 : Below w.heap.size w W1 := by rw [hW1]; exact hB2.alloc hs2 _
    clear hW1
    have hs3 := hB3.size
    refine (digits_any f W1 (by omega)).mono ?_
    rintro e w3 ⟨rfl, hb3⟩
    have hB4 := hB3.trans (hb3.mono hs3)
    have hs4 := hB4.size
    go_wp2_with fail
    refine (digits_any t w3 (by omega)).mono ?_
    rintro e w4 ⟨rfl, hb4⟩
    have hB5 := hB4.trans (hb4.mono hs4)
    have hs5 := hB5.size
    go_wp2_with fail

    refine (parse_err w4 (hk.below hB5) (by simp; omega) (fun v => by rw [hsame v, hp v]; rfl)).mono ?_
    rintro e w5 ⟨hb5, rfl⟩
    have hB6 := hB5.trans (hb5.mono hs5)
    have hs6 := hB6.size
    have e0 : ((n : Int) != 0) = true := by rcases hn with rfl | rfl | rfl | rfl <;> rfl
    go_wp2_with fail
    go_ret
    exact ⟨rfl, hB6.alloc hs6 _⟩
  · obtain rfl := letter_ads hst (by simp; omega) (hp .nilFunc)
    refine (parse_ok w1 hk1 (by omega) hp).mono ?_
    rintro e w2 ⟨hb2, p, n, p', n', rfl, hv, hd⟩
    have hB2 := hb.trans (hb2.mono hsz)
    have hs2 := hB2.size
    simp only [List.length_nil] at hv ⊢
    go_wp2_with fail
    refine name_world (Q := fun W1 => Calls _ _ _ W1 _) _ fun W1 hW1 => ?_
    have hz : CB w2.heap.size { c with rv := .slice p 0 n, dv := .slice p' dst.length n' } W1 := by rw [hW1]; exact blk_new _ _
    have hB3' : Below w2.heap.size w2 W1 := by rw [hW1]; exact (Below.refl _ w2).alloc (Nat.le_refl _) _
    clear hW1
    have hB3 := hB2.trans (hB3'.mono hs2)
    have hs3 := hB3.size
    have hs3' := hB3'.size
    refine (digits_any f W1 (by omega)).mono ?_
    rintro e w3 ⟨rfl, hb3⟩
    have hB4 := hB3.trans (hb3.mono hs3)
    have hB4' := hB3'.trans (hb3.mono hs3')
    have hs4 := hB4.size
    have hs4' := hB4'.size
    go_wp2_with fail
    refine (digits_any t w3 (by omega)).mono ?_
    rintro e w4 ⟨rfl, hb4⟩
    have hB5 := hB4.trans (hb4.mono hs4)
    have hB5' := hB4'.trans (hb4.mono hs4')
    have hs5 := hB5.size
    have hs5' := hB5'.size
    go_wp2_with fail

    refine (parse_ok w4 (hk.below hB5) (by simp; omega) (c := c) (ads := [⟨1, f, 0, [], 0, false⟩, ⟨1, t, 0, [], 0, false⟩]) (dst := dst) (fun v => by rw [hsame v, hp v]; rfl)).mono ?_
    rintro e w5 ⟨hb5, p2, n2, q2, m2, rfl, hv2, hd2⟩
    have hB6 := hB5.trans (hb5.mono hs5)
    have hB6' := hB5'.trans (hb5.mono hs5')
    have hs6 := hB6.size
    obtain ⟨g, cap, he, hg, -, H⟩ := hv2.cells (by simp)
    cases he
    have c1 : w5.cell? ⟨g, 1, none⟩ = some (.int .i64 (f : Int)) := (H 0 (by simp)).2.1
    have c7 : w5.cell? ⟨g, 7, none⟩ = some (.int .i64 (t : Int)) := (H 1 (by simp)).2.1
    clear H
    have hz5 : CB w2.heap.size _ w5 := (hb5.block _ (by have := lt_of_blk hz; have := hb3.size; have := hb4.size; omega)).trans ((hb4.block _ (by have := lt_of_blk hz; have := hb3.size; omega)).trans ((hb3.block _ (lt_of_blk hz)).trans hz))
    obtain ⟨x0, x1, x2, x3, x4, x5, x6, x7, x8, x9⟩ := ten_cells hz5
    simp only [] at x0 x1 x2 x3 x4 x5 x6 x7 x8 x9
    have hltz := lt_of_blk hz5
    simp only [List.length_cons, List.length_nil]
    go_wp2_with fail
    refine name_world (Q := fun W1 => Calls _ _ _ W1 _) _ fun W3 hW3 => ?_
    have hB7 : Below w5.heap.size w5 W3 := by rw [hW3]; exact (Below.refl _ w5).alloc (Nat.le_refl _) _
    clear hW3
    refine (same15_eq w1.heap.size w4.heap.size c _ _ none _ _ _ 0 _ [] dst W3 ((hv.keep hB6').keep hB7) ((hd.keep hB6').keep hB7) (AdsV.nil _ _) (hd2.keep hB7)).mono ?_
    rintro e w7 ⟨rfl, hb7⟩
    have hB8 := hB6.trans (hB7.mono hs6)
    go_wp2_with fail
    go_ret
    exact ⟨rfl, hB8.trans (hb7.mono hB8.size)⟩

set_option maxRecDepth 100000 in
set_option maxHeartbeats 4000000 in
theorem range_s62 (y : UInt8) (r : Bs) (hl : (y :: r).length ≤ 300) (hst : starts y = true) (hlo : ((⟨(y :: r).toArray⟩ : ByteArray)[0]'(head0 y r)).toNat < 97) (e62 : ((((⟨(y :: r).toArray⟩ : ByteArray)[0]'(head0 y r)).toNat : Int) == 62) = true) (e60 : ((((⟨(y :: r).toArray⟩ : ByteArray)[0]'(head0 y r)).toNat : Int) == 60) = false) (e38 : ((((⟨(y :: r).toArray⟩ : ByteArray)[0]'(head0 y r)).toNat : Int) == 38) = false) (e126 : ((((⟨(y :: r).toArray⟩ : ByteArray)[0]'(head0 y r)).toNat : Int) == 126) = false) (e64 : ((((⟨(y :: r).toArray⟩ : ByteArray)[0]'(head0 y r)).toNat : Int) == 64) = false) (e61 : ((((⟨(y :: r).toArray⟩ : ByteArray)[0]'(head0 y r)).toNat : Int) == 61) = false) (f t : Nat) (hf : f ≤ 65535) (ht : t ≤ 65535) (w : World) (hk : Kn w) :
    Calls Tryd.prog 7 #[.string ⟨(y :: r).toArray⟩, .int .u16 (f : Int), .int .u16 (t : Int)] w fun e w' => e = .returned (.bool true) ∧ Below w.heap.size w w' := by
  have hl2 : r.length + 1 ≤ 300 := by simpa using hl
  have hne : ((r.length : Int) + 1 == 0) = false := by rw [beq_eq_false_iff_ne]; omega
  have hdf := digL_len 8 f (by omega)
  have hdt := digL_len 8 t (by omega)
  go_enter Tryd.func7, Tryd.ntmps7
  go_wp2_with fail
  refine (known_any w hk).mono ?_
  rintro e w1 ⟨rfl, hb⟩
  have hk1 := hk.below hb
  have hsz := hb.size
  go_wp2_with fail
  have hcat := cat6 (digL f) (digL t) (y :: r)
  have hsame := fun v => range_two (a := f) (b := t) (by omega) (by omega) hst r hl v
  rcases parse_cases (y :: r) with ⟨n, hp⟩ | ⟨c, ads, dst, hp⟩
  · have hn := parseR_err (hp .nilFunc)
    refine (parse_err w1 hk1 (by omega) hp).mono ?_
    rintro e w2 ⟨hb2, rfl⟩
    have hB2 := hb.trans (hb2.mono hsz)
    have hs2 := hB2.size
    go_wp2_with fail
    refine name_world (Q := fun W1 => Calls _ _ _ W1 _) _ fun W1 hW1 => ?_
    have hB3 : Below w.heap.size w W1 := by rw [hW1]; exact hB2.alloc hs2 _
    clear hW1
    have hs3 := hB3.size
    refine (digits_any f W1 (by omega)).mono ?_
    rintro e w3 ⟨rfl, hb3⟩
    have hB4 := hB3.trans (hb3.mono hs3)
    have hs4 := hB4.size
    go_wp2_with fail
    refine (digits_any t w3 (by omega)).mono ?_
    rintro e w4 ⟨rfl, hb4⟩
    have hB5 := hB4.trans (hb4.mono hs4)
    have hs5 := hB5.size
    go_wp2_with fail

    refine (parse_err w4 (hk.below hB5) (by simp; omega) (fun v => by rw [hsame v, hp v]; rfl)).mono ?_
    rintro e w5 ⟨hb5, rfl⟩
    have hB6 := hB5.trans (hb5.mono hs5)
    have hs6 := hB6.size
    have e0 : ((n : Int) != 0) = true := by rcases hn with rfl | rfl | rfl | rfl <;> rfl
    go_wp2_with fail
    go_ret
    exact ⟨rfl, hB6.alloc hs6 _⟩
  · obtain rfl := letter_ads hst (by simp; omega) (hp .nilFunc)
    refine (parse_ok w1 hk1 (by omega) hp).mono ?_
    rintro e w2 ⟨hb2, p, n, p', n', rfl, hv, hd⟩
    have hB2 := hb.trans (hb2.mono hsz)
    have hs2 := hB2.size
    simp only [List.length_nil] at hv ⊢
    go_wp2_with fail
    refine name_world (Q := fun W1 => Calls _ _ _ W1 _) _ fun W1 hW1 => ?_
    have hz : CB w2.heap.size { c with rv := .slice p 0 n, dv := .slice p' dst.length n' } W1 := by rw [hW1]; exact blk_new _ _
    have hB3' : Below w2.heap.size w2 W1 := by rw [hW1]; exact (Below.refl _ w2).alloc (Nat.le_refl _) _
    clear hW1
    have hB3 := hB2.trans (hB3'.mono hs2)
    have hs3 := hB3.size
    have hs3' := hB3'.size
    refine (digits_any f W1 (by omega)).mono ?_
    rintro e w3 ⟨rfl, hb3⟩
    have hB4 := hB3.trans (hb3.mono hs3)
    have hB4' := hB3'.trans (hb3.mono hs3')
    have hs4 := hB4.size
    have hs4' := hB4'.size
    go_wp2_with fail
    refine (digits_any t w3 (by omega)).mono ?_
    rintro e w4 ⟨rfl, hb4⟩
    have hB5 := hB4.trans (hb4.mono hs4)
    have hB5' := hB4'.trans (hb4.mono hs4')
    have hs5 := hB5.size
    have hs5' := hB5'.size
    go_wp2_with fail

    refine (parse_ok w4 (hk.below hB5) (by simp; omega) (c := c) (ads := [⟨1, f, 0, [], 0, false⟩, ⟨1, t, 0, [], 0, false⟩]) (dst := dst) (fun v => by rw [hsame v, hp v]; rfl)).mono ?_
    rintro e w5 ⟨hb5, p2, n2, q2, m2, rfl, hv2, hd2⟩
    have hB6 := hB5.trans (hb5.mono hs5)
    have hB6' := hB5'.trans (hb5.mono hs5')
    have hs6 := hB6.size
    obtain ⟨g, cap, he, hg, -, H⟩ := hv2.cells (by simp)
    cases he
    have c1 : w5.cell? ⟨g, 1, none⟩ = some (.int .i64 (f : Int)) := (H 0 (by simp)).2.1
    have c7 : w5.cell? ⟨g, 7, none⟩ = some (.int .i64 (t : Int)) := (H 1 (by simp)).2.1
    clear H
    have hz5 : CB w2.heap.size _ w5 := (hb5.block _ (by have := lt_of_blk hz; have := hb3.size; have := hb4.size; omega)).trans ((hb4.block _ (by have := lt_of_blk hz; have := hb3.size; omega)).trans ((hb3.block _ (lt_of_blk hz)).trans hz))
    obtain ⟨x0, x1, x2, x3, x4, x5, x6, x7, x8, x9⟩ := ten_cells hz5
    simp only [] at x0 x1 x2 x3 x4 x5 x6 x7 x8 x9
    have hltz := lt_of_blk hz5
    simp only [List.length_cons, List.length_nil]
    go_wp2_with fail
    refine name_world (Q := fun W1 => Calls _ _ _ W1 _) _ fun W3 hW3 => ?_
    have hB7 : Below w5.heap.size w5 W3 := by rw [hW3]; exact (Below.refl _ w5).alloc (Nat.le_refl _) _
    clear hW3
    refine (same15_eq w1.heap.size w4.heap.size c _ _ none _ _ _ 0 _ [] dst W3 ((hv.keep hB6').keep hB7) ((hd.keep hB6').keep hB7) (AdsV.nil _ _) (hd2.keep hB7)).mono ?_
    rintro e w7 ⟨rfl, hb7⟩
    have hB8 := hB6.trans (hB7.mono hs6)
    go_wp2_with fail
    go_ret
    exact ⟨rfl, hB8.trans (hb7.mono hB8.size)⟩

set_option maxRecDepth 100000 in
set_option maxHeartbeats 4000000 in
theorem range_s60 (y : UInt8) (r : Bs) (hl : (y :: r).length ≤ 300) (hst : starts y = true) (hlo : ((⟨(y :: r).toArray⟩ : ByteArray)[0]'(head0 y r)).toNat < 97) (e62 : ((((⟨(y :: r).toArray⟩ : ByteArray)[0]'(head0 y r)).toNat : Int) == 62) = false) (e60 : ((((⟨(y :: r).toArray⟩ : ByteArray)[0]'(head0 y r)).toNat : Int) == 60) = true) (e38 : ((((⟨(y :: r).toArray⟩ : ByteArray)[0]'(head0 y r)).toNat : Int) == 38) = false) (e126 : ((((⟨(y :: r).toArray⟩ : ByteArray)[0]'(head0 y r)).toNat : Int) == 126) = false) (e64 : ((((⟨(y :: r).toArray⟩ : ByteArray)[0]'(head0 y r)).toNat : Int) == 64) = false) (e61 : ((((⟨(y :: r).toArray⟩ : ByteArray)[0]'(head0 y r)).toNat : Int) == 61) = false) (f t : Nat) (hf : f ≤ 65535) (ht : t ≤ 65535) (w : World) (hk : Kn w) :
    Calls Tryd.prog 7 #[.string ⟨(y :: r).toArray⟩, .int .u16 (f : Int), .int .u16 (t : Int)] w fun e w' => e = .returned (.bool true) ∧ Below w.heap.size w w' := by
  have hl2 : r.length + 1 ≤ 300 := by simpa using hl
  have hne : ((r.length : Int) + 1 == 0) = false := by rw [beq_eq_false_iff_ne]; omega
  have hdf := digL_len 8 f (by omega)
  have hdt := digL_len 8 t (by omega)
  go_enter Tryd.func7, Tryd.ntmps7
  go_wp2_with fail
  refine (known_any w hk).mono ?_
  rintro e w1 ⟨rfl, hb⟩
  have hk1 := hk.below hb
  have hsz := hb.size
  go_wp2_with fail
  have hcat := cat6 (digL f) (digL t) (y :: r)
  have hsame := fun v => range_two (a := f) (b := t) (by omega) (by omega) hst r hl v
  rcases parse_cases (y :: r) with ⟨n, hp⟩ | ⟨c, ads, dst, hp⟩
  · have hn := parseR_err (hp .nilFunc)
    refine (parse_err w1 hk1 (by omega) hp).mono ?_
    rintro e w2 ⟨hb2, rfl⟩
    have hB2 := hb.trans (hb2.mono hsz)
    have hs2 := hB2.size
    go_wp2_with fail
    refine name_world (Q := fun W1 => Calls _ _ _ W1 _) _ fun W1 hW1 => ?_
    have hB3 : Below w.heap.size w W1 := by rw [hW1]; exact hB2.alloc hs2 _
    clear hW1
    have hs3 := hB3.size
    refine (digits_any f W1 (by omega)).mono ?_
    rintro e w3 ⟨rfl, hb3⟩
    have hB4 := hB3.trans (hb3.mono hs3)
    have hs4 := hB4.size
    go_wp2_with fail
    refine (digits_any t w3 (by omega)).mono ?_
    rintro e w4 ⟨rfl, hb4⟩
    have hB5 := hB4.trans (hb4.mono hs4)
    have hs5 := hB5.size
    go_wp2_with fail

    refine (parse_err w4 (hk.below hB5) (by simp; omega) (fun v => by rw [hsame v, hp v]; rfl)).mono ?_
    rintro e w5 ⟨hb5, rfl⟩
    have hB6 := hB5.trans (hb5.mono hs5)
    have hs6 := hB6.size
    have e0 : ((n : Int) != 0) = true := by rcases hn with rfl | rfl | rfl | rfl <;> rfl
    go_wp2_with fail
    go_ret
    exact ⟨rfl, hB6.alloc hs6 _⟩
  · obtain rfl := letter_ads hst (by simp; omega) (hp .nilFunc)
    refine (parse_ok w1 hk1 (by omega) hp).mono ?_
    rintro e w2 ⟨hb2, p, n, p', n', rfl, hv, hd⟩
    have hB2 := hb.trans (hb2.mono hsz)
    have hs2 := hB2.size
    simp only [List.length_nil] at hv ⊢
    go_wp2_with fail
    refine name_world (Q := fun W1 => Calls _ _ _ W1 _) _ fun W1 hW1 => ?_
    have hz : CB w2.heap.size { c with rv := .slice p 0 n, dv := .slice p' dst.length n' } W1 := by rw [hW1]; exact blk_new _ _
    have hB3' : Below w2.heap.size w2 W1 := by rw [hW1]; exact (Below.refl _ w2).alloc (Nat.le_refl _) _
    clear hW1
    have hB3 := hB2.trans (hB3'.mono hs2)
    have hs3 := hB3.size
    have hs3' := hB3'.size
    refine (digits_any f W1 (by omega)).mono ?_
    rintro e w3 ⟨rfl, hb3⟩
    have hB4 := hB3.trans (hb3.mono hs3)
    have hB4' := hB3'.trans (hb3.mono hs3')
    have hs4 := hB4.size
    have hs4' := hB4'.size
    go_wp2_with fail
    refine (digits_any t w3 (by omega)).mono ?_
    rintro e w4 ⟨rfl, hb4⟩
    have hB5 := hB4.trans (hb4.mono hs4)
    have hB5' := hB4'.trans (hb4.mono hs4')
    have hs5 := hB5.size
    have hs5' := hB5'.size
    go_wp2_with fail

    refine (parse_ok w4 (hk.below hB5) (by simp; omega) (c := c) (ads := [⟨1, f, 0, [], 0, false⟩, ⟨1, t, 0, [], 0, false⟩]) (dst := dst) (fun v => by rw [hsame v, hp v]; rfl)).mono ?_
    rintro e w5 ⟨hb5, p2, n2, q2, m2, rfl, hv2, hd2⟩
    have hB6 := hB5.trans (hb5.mono hs5)
    have hB6' := hB5'.trans (hb5.mono hs5')
    have hs6 := hB6.size
    obtain ⟨g, cap, he, hg, -, H⟩ := hv2.cells (by simp)
    cases he
    have c1 : w5.cell? ⟨g, 1, none⟩ = some (.int .i64 (f : Int)) := (H 0 (by simp)).2.1
    have c7 : w5.cell? ⟨g, 7, none⟩ = some (.int .i64 (t : Int)) := (H 1 (by simp)).2.1
    clear H
    have hz5 : CB w2.heap.size _ w5 := (hb5.block _ (by have := lt_of_blk hz; have := hb3.size; have := hb4.size; omega)).trans ((hb4.block _ (by have := lt_of_blk hz; have := hb3.size; omega)).trans ((hb3.block _ (lt_of_blk hz)).trans hz))
    obtain ⟨x0, x1, x2, x3, x4, x5, x6, x7, x8, x9⟩ := ten_cells hz5
    simp only [] at x0 x1 x2 x3 x4 x5 x6 x7 x8 x9
    have hltz := lt_of_blk hz5
    simp only [List.length_cons, List.length_nil]
    go_wp2_with fail
    refine name_world (Q := fun W1 => Calls _ _ _ W1 _) _ fun W3 hW3 => ?_
    have hB7 : Below w5.heap.size w5 W3 := by rw [hW3]; exact (Below.refl _ w5).alloc (Nat.le_refl _) _
    clear hW3
    refine (same15_eq w1.heap.size w4.heap.size c _ _ none _ _ _ 0 _ [] dst W3 ((hv.keep hB6').keep hB7) ((hd.keep hB6').keep hB7) (AdsV.nil _ _) (hd2.keep hB7)).mono ?_
    rintro e w7 ⟨rfl, hb7⟩
    have hB8 := hB6.trans (hB7.mono hs6)
    go_wp2_with fail
    go_ret
    exact ⟨rfl, hB8.trans (hb7.mono hB8.size)⟩

set_option maxRecDepth 100000 in
set_option maxHeartbeats 4000000 in
theorem range_s38 (y : UInt8) (r : Bs) (hl : (y :: r).length ≤ 300) (hst : starts y = true) (hlo : ((⟨(y :: r).toArray⟩ : ByteArray)[0]'(head0 y r)).toNat < 97) (e62 : ((((⟨(y :: r).toArray⟩ : ByteArray)[0]'(head0 y r)).toNat : Int) == 62) = false) (e60 : ((((⟨(y :: r).toArray⟩ : ByteArray)[0]'(head0 y r)).toNat : Int) == 60) = false) (e38 : ((((⟨(y :: r).toArray⟩ : ByteArray)[0]'(head0 y r)).toNat : Int) == 38) = true) (e126 : ((((⟨(y :: r).toArray⟩ : ByteArray)[0]'(head0 y r)).toNat : Int) == 126) = false) (e64 : ((((⟨(y :: r).toArray⟩ : ByteArray)[0]'(head0 y r)).toNat : Int) == 64) = false) (e61 : ((((⟨(y :: r).toArray⟩ : ByteArray)[0]'(head0 y r)).toNat : Int) == 61) = false) (f t : Nat) (hf : f ≤ 65535) (ht : t ≤ 65535) (w : World) (hk : Kn w) :
    Calls Tryd.prog 7 #[.string ⟨(y :: r).toArray⟩, .int .u16 (f : Int), .int .u16 (t : Int)] w fun e w' => e = .returned (.bool true) ∧ Below w.heap.size w w' := by
  have hl2 : r.length + 1 ≤ 300 := by simpa using hl
  have hne : ((r.length : Int) + 1 == 0) = false := by rw [beq_eq_false_iff_ne]; omega
  have hdf := digL_len 8 f (by omega)
  have hdt := digL_len 8 t (by omega)
  go_enter Tryd.func7, Tryd.ntmps7
  go_wp2_with fail
  refine (known_any w hk).mono ?_
  rintro e w1 ⟨rfl, hb⟩
  have hk1 := hk.below hb
  have hsz := hb.size
  go_wp2_with fail
  have hcat := cat6 (digL f) (digL t) (y :: r)
  have hsame := fun v => range_two (a := f) (b := t) (by omega) (by omega) hst r hl v
  rcases parse_cases (y :: r) with ⟨n, hp⟩ | ⟨c, ads, dst, hp⟩
  · have hn := parseR_err (hp .nilFunc)
    refine (parse_err w1 hk1 (by omega) hp).mono ?_
    rintro e w2 ⟨hb2, rfl⟩
    have hB2 := hb.trans (hb2.mono hsz)
    have hs2 := hB2.size
    go_wp2_with fail
    refine name_world (Q := fun W1 => Calls _ _ _ W1 _) _ fun W1 hW1 => ?_
    have hB3 : Below w.heap.size w W1 := by rw [hW1]; exact hB2.alloc hs2 _
    clear hW1
    have hs3 := hB3.size
    refine (digits_any f W1 (by omega)).mono ?_
    rintro e w3 ⟨rfl, hb3⟩
    have hB4 := hB3.trans (hb3.mono hs3)
    have hs4 := hB4.size
    go_wp2_with fail
    refine (digits_any t w3 (by omega)).mono ?_
    rintro e w4 ⟨rfl, hb4⟩
    have hB5 := hB4.trans (hb4.mono hs4)
    have hs5 := hB5.size
    go_wp2_with fail

    refine (parse_err w4 (hk.below hB5) (by simp; omega) (fun v => by rw [hsame v, hp v]; rfl)).mono ?_
    rintro e w5 ⟨hb5, rfl⟩
    have hB6 := hB5.trans (hb5.mono hs5)
    have hs6 := hB6.size
    have e0 : ((n : Int) != 0) = true := by rcases hn with rfl | rfl | rfl | rfl <;> rfl
    go_wp2_with fail
    go_ret
    exact ⟨rfl, hB6.alloc hs6 _⟩
  · obtain rfl := letter_ads hst (by simp; omega) (hp .nilFunc)
    refine (parse_ok w1 hk1 (by omega) hp).mono ?_
    rintro e w2 ⟨hb2, p, n, p', n', rfl, hv, hd⟩
    have hB2 := hb.trans (hb2.mono hsz)
    have hs2 := hB2.size
    simp only [List.length_nil] at hv ⊢
    go_wp2_with fail
    refine name_world (Q := fun W1 => Calls _ _ _ W1 _) _ fun W1 hW1 => ?_
    have hz : CB w2.heap.size { c with rv := .slice p 0 n, dv := .slice p' dst.length n' } W1 := by rw [hW1]; exact blk_new _ _
    have hB3' : Below w2.heap.size w2 W1 := by rw [hW1]; exact (Below.refl _ w2).alloc (Nat.le_refl _) _
    clear hW1
    have hB3 := hB2.trans (hB3'.mono hs2)
    have hs3 := hB3.size
    have hs3' := hB3'.size
    refine (digits_any f W1 (by omega)).mono ?_
    rintro e w3 ⟨rfl, hb3⟩
    have hB4 := hB3.trans (hb3.mono hs3)
    have hB4' := hB3'.trans (hb3.mono hs3')
    have hs4 := hB4.size
    have hs4' := hB4'.size
    go_wp2_with fail
    refine (digits_any t w3 (by omega)).mono ?_
    rintro e w4 ⟨rfl, hb4⟩
    have hB5 := hB4.trans (hb4.mono hs4)
    have hB5' := hB4'.trans (hb4.mono hs4')
    have hs5 := hB5.size
    have hs5' := hB5'.size
    go_wp2_with fail

    refine (parse_ok w4 (hk.below hB5) (by simp; omega) (c := c) (ads := [⟨1, f, 0, [], 0, false⟩, ⟨1, t, 0, [], 0, false⟩]) (dst := dst) (fun v => by rw [hsame v, hp v]; rfl)).mono ?_
    rintro e w5 ⟨hb5, p2, n2, q2, m2, rfl, hv2, hd2⟩
    have hB6 := hB5.trans (hb5.mono hs5)
    have hB6' := hB5'.trans (hb5.mono hs5')
    have hs6 := hB6.size
    obtain ⟨g, cap, he, hg, -, H⟩ := hv2.cells (by simp)
    cases he
    have c1 : w5.cell? ⟨g, 1, none⟩ = some (.int .i64 (f : Int)) := (H 0 (by simp)).2.1
    have c7 : w5.cell? ⟨g, 7, none⟩ = some (.int .i64 (t : Int)) := (H 1 (by simp)).2.1
    clear H
    have hz5 : CB w2.heap.size _ w5 := (hb5.block _ (by have := lt_of_blk hz; have := hb3.size; have := hb4.size; omega)).trans ((hb4.block _ (by have := lt_of_blk hz; have := hb3.size; omega)).trans ((hb3.block _ (lt_of_blk hz)).trans hz))
    obtain ⟨x0, x1, x2, x3, x4, x5, x6, x7, x8, x9⟩ := ten_cells hz5
    simp only [] at x0 x1 x2 x3 x4 x5 x6 x7 x8 x9
    have hltz := lt_of_blk hz5
    simp only [List.length_cons, List.length_nil]
    go_wp2_with fail
    refine name_world (Q := fun W1 => Calls _ _ _ W1 _) _ fun W3 hW3 => ?_
    have hB7 : Below w5.heap.size w5 W3 := by rw [hW3]; exact (Below.refl _ w5).alloc (Nat.le_refl _) _
    clear hW3
    refine (same15_eq w1.heap.size w4.heap.size c _ _ none _ _ _ 0 _ [] dst W3 ((hv.keep hB6').keep hB7) ((hd.keep hB6').keep hB7) (AdsV.nil _ _) (hd2.keep hB7)).mono ?_
    rintro e w7 ⟨rfl, hb7⟩
    have hB8 := hB6.trans (hB7.mono hs6)
    go_wp2_with fail
    go_ret
    exact ⟨rfl, hB8.trans (hb7.mono hB8.size)⟩

set_option maxRecDepth 100000 in
set_option maxHeartbeats 4000000 in
theorem range_s126 (y : UInt8) (r : Bs) (hl : (y :: r).length ≤ 300) (hst : starts y = true) (hhi : 122 < ((⟨(y :: r).toArray⟩ : ByteArray)[0]'(head0 y r)).toNat) (e62 : ((((⟨(y :: r).toArray⟩ : ByteArray)[0]'(head0 y r)).toNat : Int) == 62) = false) (e60 : ((((⟨(y :: r).toArray⟩ : ByteArray)[0]'(head0 y r)).toNat : Int) == 60) = false) (e38 : ((((⟨(y :: r).toArray⟩ : ByteArray)[0]'(head0 y r)).toNat : Int) == 38) = false) (e126 : ((((⟨(y :: r).toArray⟩ : ByteArray)[0]'(head0 y r)).toNat : Int) == 126) = true) (e64 : ((((⟨(y :: r).toArray⟩ : ByteArray)[0]'(head0 y r)).toNat : Int) == 64) = false) (e61 : ((((⟨(y :: r).toArray⟩ : ByteArray)[0]'(head0 y r)).toNat : Int) == 61) = false) (f t : Nat) (hf : f ≤ 65535) (ht : t ≤ 65535) (w : World) (hk : Kn w) :
    Calls Tryd.prog 7 #[.string ⟨(y :: r).toArray⟩, .int .u16 (f : Int), .int .u16 (t : Int)] w fun e w' => e = .returned (.bool true) ∧ Below w.heap.size w w' := by
  have hl2 : r.length + 1 ≤ 300 := by simpa using hl
  have hne : ((r.length : Int) + 1 == 0) = false := by rw [beq_eq_false_iff_ne]; omega
  have hdf := digL_len 8 f (by omega)
  have hdt := digL_len 8 t (by omega)
  go_enter Tryd.func7, Tryd.ntmps7
  go_wp2_with fail
  refine (known_any w hk).mono ?_
  rintro e w1 ⟨rfl, hb⟩
  have hk1 := hk.below hb
  have hsz := hb.size
  go_wp2_with fail
  have hcat := cat6 (digL f) (digL t) (y :: r)
  have hsame := fun v => range_two (a := f) (b := t) (by omega) (by omega) hst r hl v
  rcases parse_cases (y :: r) with ⟨n, hp⟩ | ⟨c, ads, dst, hp⟩
  · have hn := parseR_err (hp .nilFunc)
    refine (parse_err w1 hk1 (by omega) hp).mono ?_
    rintro e w2 ⟨hb2, rfl⟩
    have hB2 := hb.trans (hb2.mono hsz)
    have hs2 := hB2.size
    go_wp2_with fail
    refine name_world (Q := fun W1 => Calls _ _ _ W1 _) _ fun W1 hW1 => ?_
    have hB3 : Below w.heap.size w W1 := by rw [hW1]; exact hB2.alloc hs2 _
    clear hW1
    have hs3 := hB3.size
    refine (digits_any f W1 (by omega)).mono ?_
    rintro e w3 ⟨rfl, hb3⟩
    have hB4 := hB3.trans (hb3.mono hs3)
    have hs4 := hB4.size
    go_wp2_with fail
    refine (digits_any t w3 (by omega)).mono ?_
    rintro e w4 ⟨rfl, hb4⟩
    have hB5 := hB4.trans (hb4.mono hs4)
    have hs5 := hB5.size
    go_wp2_with fail

    refine (parse_err w4 (hk.below hB5) (by simp; omega) (fun v => by rw [hsame v, hp v]; rfl)).mono ?_
    rintro e w5 ⟨hb5, rfl⟩
    have hB6 := hB5.trans (hb5.mono hs5)
    have hs6 := hB6.size
    have e0 : ((n : Int) != 0) = true := by rcases hn with rfl | rfl | rfl | rfl <;> rfl
    go_wp2_with fail
    go_ret
    exact ⟨rfl, hB6.alloc hs6 _⟩
  · obtain rfl := letter_ads hst (by simp; omega) (hp .nilFunc)
    refine (parse_ok w1 hk1 (by omega) hp).mono ?_
    rintro e w2 ⟨hb2, p, n, p', n', rfl, hv, hd⟩
    have hB2 := hb.trans (hb2.mono hsz)
    have hs2 := hB2.size
    simp only [List.length_nil] at hv ⊢
    go_wp2_with fail
    refine name_world (Q := fun W1 => Calls _ _ _ W1 _) _ fun W1 hW1 => ?_
    have hz : CB w2.heap.size { c with rv := .slice p 0 n, dv := .slice p' dst.length n' } W1 := by rw [hW1]; exact blk_new _ _
    have hB3' : Below w2.heap.size w2 W1 := by rw [hW1]; exact (Below.refl _ w2).alloc (Nat.le_refl _) _
    clear hW1
    have hB3 := hB2.trans (hB3'.mono hs2)
    have hs3 := hB3.size
    have hs3' := hB3'.size
    refine (digits_any f W1 (by omega)).mono ?_
    rintro e w3 ⟨rfl, hb3⟩
    have hB4 := hB3.trans (hb3.mono hs3)
    have hB4' := hB3'.trans (hb3.mono hs3')
    have hs4 := hB4.size
    have hs4' := hB4'.size
    go_wp2_with fail
    refine (digits_any t w3 (by omega)).mono ?_
    rintro e w4 ⟨rfl, hb4⟩
    have hB5 := hB4.trans (hb4.mono hs4)
    have hB5' := hB4'.trans (hb4.mono hs4')
    have hs5 := hB5.size
    have hs5' := hB5'.size
    go_wp2_with fail

    refine (parse_ok w4 (hk.below hB5) (by simp; omega) (c := c) (ads := [⟨1, f, 0, [], 0, false⟩, ⟨1, t, 0, [], 0, false⟩]) (dst := dst) (fun v => by rw [hsame v, hp v]; rfl)).mono ?_
    rintro e w5 ⟨hb5, p2, n2, q2, m2, rfl, hv2, hd2⟩
    have hB6 := hB5.trans (hb5.mono hs5)
    have hB6' := hB5'.trans (hb5.mono hs5')
    have hs6 := hB6.size
    obtain ⟨g, cap, he, hg, -, H⟩ := hv2.cells (by simp)
    cases he
    have c1 : w5.cell? ⟨g, 1, none⟩ = some (.int .i64 (f : Int)) := (H 0 (by simp)).2.1
    have c7 : w5.cell? ⟨g, 7, none⟩ = some (.int .i64 (t : Int)) := (H 1 (by simp)).2.1
    clear H
    have hz5 : CB w2.heap.size _ w5 := (hb5.block _ (by have := lt_of_blk hz; have := hb3.size; have := hb4.size; omega)).trans ((hb4.block _ (by have := lt_of_blk hz; have := hb3.size; omega)).trans ((hb3.block _ (lt_of_blk hz)).trans hz))
    obtain ⟨x0, x1, x2, x3, x4, x5, x6, x7, x8, x9⟩ := ten_cells hz5
    simp only [] at x0 x1 x2 x3 x4 x5 x6 x7 x8 x9
    have hltz := lt_of_blk hz5
    simp only [List.length_cons, List.length_nil]
    go_wp2_with fail
    refine name_world (Q := fun W1 => Calls _ _ _ W1 _) _ fun W3 hW3 => ?_
    have hB7 : Below w5.heap.size w5 W3 := by rw [hW3]; exact (Below.refl _ w5).alloc (Nat.le_refl _) _
    clear hW3
    refine (same15_eq w1.heap.size w4.heap.size c _ _ none _ _ _ 0 _ [] dst W3 ((hv.keep hB6').keep hB7) ((hd.keep hB6').keep hB7) (AdsV.nil _ _) (hd2.keep hB7)).mono ?_
    rintro e w7 ⟨rfl, hb7⟩
    have hB8 := hB6.trans (hB7.mono hs6)
    go_wp2_with fail
    go_ret
    exact ⟨rfl, hB8.trans (hb7.mono hB8.size)⟩

set_option maxRecDepth 100000 in
set_option maxHeartbeats 4000000 in
theorem range_s64 (y : UInt8) (r : Bs) (hl : (y :: r).length ≤ 300) (hst : starts y = true) (hlo : ((⟨(y :: r).toArray⟩ : ByteArray)[0]'(head0 y r)).toNat < 97) (e62 : ((((⟨(y :: r).toArray⟩ : ByteArray)[0]'(head0 y r)).toNat : Int) == 62) = false) (e60 : ((((⟨(y :: r).toArray⟩ : ByteArray)[0]'(head0 y r)).toNat : Int) == 60) = false) (e38 : ((((⟨(y :: r).toArray⟩ : ByteArray)[0]'(head0 y r)).toNat : Int) == 38) = false) (e126 : ((((⟨(y :: r).toArray⟩ : ByteArray)[0]'(head0 y r)).toNat : Int) == 126) = false) (e64 : ((((⟨(y :: r).toArray⟩ : ByteArray)[0]'(head0 y r)).toNat : Int) == 64) = true) (e61 : ((((⟨(y :: r).toArray⟩ : ByteArray)[0]'(head0 y r)).toNat : Int) == 61) = false) (f t : Nat) (hf : f ≤ 65535) (ht : t ≤ 65535) (w : World) (hk : Kn w) :
    Calls Tryd.prog 7 #[.string ⟨(y :: r).toArray⟩, .int .u16 (f : Int), .int .u16 (t : Int)] w fun e w' => e = .returned (.bool true) ∧ Below w.heap.size w w' := by
  have hl2 : r.length + 1 ≤ 300 := by simpa using hl
  have hne : ((r.length : Int) + 1 == 0) = false := by rw [beq_eq_false_iff_ne]; omega
  have hdf := digL_len 8 f (by omega)
  have hdt := digL_len 8 t (by omega)
  go_enter Tryd.func7, Tryd.ntmps7
  go_wp2_with fail
  refine (known_any w hk).mono ?_
  rintro e w1 ⟨rfl, hb⟩
  have hk1 := hk.below hb
  have hsz := hb.size
  go_wp2_with fail
  have hcat := cat6 (digL f) (digL t) (y :: r)
  have hsame := fun v => range_two (a := f) (b := t) (by omega) (by omega) hst r hl v
  rcases parse_cases (y :: r) with ⟨n, hp⟩ | ⟨c, ads, dst, hp⟩
  · have hn := parseR_err (hp .nilFunc)
    refine (parse_err w1 hk1 (by omega) hp).mono ?_
    rintro e w2 ⟨hb2, rfl⟩
    have hB2 := hb.trans (hb2.mono hsz)
    have hs2 := hB2.size
    go_wp2_with fail
    refine name_world (Q := fun W1 => Calls _ _ _ W1 _) _ fun W1 hW1 => ?_
    have hB3 : Below w.heap.size w W1 := by rw [hW1]; exact hB2.alloc hs2 _
    clear hW1
    have hs3 := hB3.size
    refine (digits_any f W1 (by omega)).mono ?_
    rintro e w3 ⟨rfl, hb3⟩
    have hB4 := hB3.trans (hb3.mono hs3)
    have hs4 := hB4.size
    go_wp2_with fail
    refine (digits_any t w3 (by omega)).mono ?_
    rintro e w4 ⟨rfl, hb4⟩
    have hB5 := hB4.trans (hb4.mono hs4)
    have hs5 := hB5.size
    go_wp2_with fail

    refine (parse_err w4 (hk.below hB5) (by simp; omega) (fun v => by rw [hsame v, hp v]; rfl)).mono ?_
    rintro e w5 ⟨hb5, rfl⟩
    have hB6 := hB5.trans (hb5.mono hs5)
    have hs6 := hB6.size
    have e0 : ((n : Int) != 0) = true := by rcases hn with rfl | rfl | rfl | rfl <;> rfl
    go_wp2_with fail
    go_ret
    exact ⟨rfl, hB6.alloc hs6 _⟩
  · obtain rfl := letter_ads hst (by simp; omega) (hp .nilFunc)
    refine (parse_ok w1 hk1 (by omega) hp).mono ?_
    rintro e w2 ⟨hb2, p, n, p', n', rfl, hv, hd⟩
    have hB2 := hb.trans (hb2.mono hsz)
    have hs2 := hB2.size
    simp only [List.length_nil] at hv ⊢
    go_wp2_with fail
    refine name_world (Q := fun W1 => Calls _ _ _ W1 _) _ fun W1 hW1 => ?_
    have hz : CB w2.heap.size { c with rv := .slice p 0 n, dv := .slice p' dst.length n' } W1 := by rw [hW1]; exact blk_new _ _
    have hB3' : Below w2.heap.size w2 W1 := by rw [hW1]; exact (Below.refl _ w2).alloc (Nat.le_refl _) _
    clear hW1
    have hB3 := hB2.trans (hB3'.mono hs2)
    have hs3 := hB3.size
    have hs3' := hB3'.size
    refine (digits_any f W1 (by omega)).mono ?_
    rintro e w3 ⟨rfl, hb3⟩
    have hB4 := hB3.trans (hb3.mono hs3)
    have hB4' := hB3'.trans (hb3.mono hs3')
    have hs4 := hB4.size
    have hs4' := hB4'.size
    go_wp2_with fail
    refine (digits_any t w3 (by omega)).mono ?_
    rintro e w4 ⟨rfl, hb4⟩
    have hB5 := hB4.trans (hb4.mono hs4)
    have hB5' := hB4'.trans (hb4.mono hs4')
    have hs5 := hB5.size
    have hs5' := hB5'.size
    go_wp2_with fail

    refine (parse_ok w4 (hk.below hB5) (by simp; omega) (c := c) (ads := [⟨1, f, 0, [], 0, false⟩, ⟨1, t, 0, [], 0, false⟩]) (dst := dst) (fun v => by rw [hsame v, hp v]; rfl)).mono ?_
    rintro e w5 ⟨hb5, p2, n2, q2, m2, rfl, hv2, hd2⟩
    have hB6 := hB5.trans (hb5.mono hs5)
    have hB6' := hB5'.trans (hb5.mono hs5')
    have hs6 := hB6.size
    obtain ⟨g, cap, he, hg, -, H⟩ := hv2.cells (by simp)
    cases he
    have c1 : w5.cell? ⟨g, 1, none⟩ = some (.int .i64 (f : Int)) := (H 0 (by simp)).2.1
    have c7 : w5.cell? ⟨g, 7, none⟩ = some (.int .i64 (t : Int)) := (H 1 (by simp)).2.1
    clear H
    have hz5 : CB w2.heap.size _ w5 := (hb5.block _ (by have := lt_of_blk hz; have := hb3.size; have := hb4.size; omega)).trans ((hb4.block _ (by have := lt_of_blk hz; have := hb3.size; omega)).trans ((hb3.block _ (lt_of_blk hz)).trans hz))
    obtain ⟨x0, x1, x2, x3, x4, x5, x6, x7, x8, x9⟩ := ten_cells hz5
    simp only [] at x0 x1 x2 x3 x4 x5 x6 x7 x8 x9
    have hltz := lt_of_blk hz5
    simp only [List.length_cons, List.length_nil]
    go_wp2_with fail
    refine name_world (Q := fun W1 => Calls _ _ _ W1 _) _ fun W3 hW3 => ?_
    have hB7 : Below w5.heap.size w5 W3 := by rw [hW3]; exact (Below.refl _ w5).alloc (Nat.le_refl _) _
    clear hW3
    refine (same15_eq w1.heap.size w4.heap.size c _ _ none _ _ _ 0 _ [] dst W3 ((hv.keep hB6').keep hB7) ((hd.keep hB6').keep hB7) (AdsV.nil _ _) (hd2.keep hB7)).mono ?_
    rintro e w7 ⟨rfl, hb7⟩
    have hB8 := hB6.trans (hB7.mono hs6)
    go_wp2_with fail
    go_ret
    exact ⟨rfl, hB8.trans (hb7.mono hB8.size)⟩

set_option maxRecDepth 100000 in
set_option maxHeartbeats 4000000 in
theorem range_s61 (y : UInt8) (r : Bs) (hl : (y :: r).length ≤ 300) (hst : starts y = true) (hlo : ((⟨(y :: r).toArray⟩ : ByteArray)[0]'(head0 y r)).toNat < 97) (e62 : ((((⟨(y :: r).toArray⟩ : ByteArray)[0]'(head0 y r)).toNat : Int) == 62) = false) (e60 : ((((⟨(y :: r).toArray⟩ : ByteArray)[0]'(head0 y r)).toNat : Int) == 60) = false) (e38 : ((((⟨(y :: r).toArray⟩ : ByteArray)[0]'(head0 y r)).toNat : Int) == 38) = false) (e126 : ((((⟨(y :: r).toArray⟩ : ByteArray)[0]'(head0 y r)).toNat : Int) == 126) = false) (e64 : ((((⟨(y :: r).toArray⟩ : ByteArray)[0]'(head0 y r)).toNat : Int) == 64) = false) (e61 : ((((⟨(y :: r).toArray⟩ : ByteArray)[0]'(head0 y r)).toNat : Int) == 61) = true) (f t : Nat) (hf : f ≤ 65535) (ht : t ≤ 65535) (w : World) (hk : Kn w) :
    Calls Tryd.prog 7 #[.string ⟨(y :: r).toArray⟩, .int .u16 (f : Int), .int .u16 (t : Int)] w fun e w' => e = .returned (.bool true) ∧ Below w.heap.size w w' := by
  have hl2 : r.length + 1 ≤ 300 := by simpa using hl
  have hne : ((r.length : Int) + 1 == 0) = false := by rw [beq_eq_false_iff_ne]; omega
  have hdf := digL_len 8 f (by omega)
  have hdt := digL_len 8 t (by omega)
  go_enter Tryd.func7, Tryd.ntmps7
  go_wp2_with fail
  refine (known_any w hk).mono ?_
  rintro e w1 ⟨rfl, hb⟩
  have hk1 := hk.below hb
  have hsz := hb.size
  go_wp2_with fail
  have hcat := cat6 (digL f) (digL t) (y :: r)
  have hsame := fun v => range_two (a := f) (b := t) (by omega) (by omega) hst r hl v
  rcases parse_cases (y :: r) with ⟨n, hp⟩ | ⟨c, ads, dst, hp⟩
  · have hn := parseR_err (hp .nilFunc)
    refine (parse_err w1 hk1 (by omega) hp).mono ?_
    rintro e w2 ⟨hb2, rfl⟩
    have hB2 := hb.trans (hb2.mono hsz)
    have hs2 := hB2.size
    go_wp2_with fail
    refine name_world (Q := fun W1 => Calls _ _ _ W1 _) _ fun W1 hW1 => ?_
    have hB3 : Below w.heap.size w W1 := by rw [hW1]; exact hB2.alloc hs2 _
    clear hW1
    have hs3 := hB3.size
    refine (digits_any f W1 (by omega)).mono ?_
    rintro e w3 ⟨rfl, hb3⟩
    have hB4 := hB3.trans (hb3.mono hs3)
    have hs4 := hB4.size
    go_wp2_with fail
    refine (digits_any t w3 (by omega)).mono ?_
    rintro e w4 ⟨rfl, hb4⟩
    have hB5 := hB4.trans (hb4.mono hs4)
    have hs5 := hB5.size
    go_wp2_with fail

    refine (parse_err w4 (hk.below hB5) (by simp; omega) (fun v => by rw [hsame v, hp v]; rfl)).mono ?_
    rintro e w5 ⟨hb5, rfl⟩
    have hB6 := hB5.trans (hb5.mono hs5)
    have hs6 := hB6.size
    have e0 : ((n : Int) != 0) = true := by rcases hn with rfl | rfl | rfl | rfl <;> rfl
    go_wp2_with fail
    go_ret
    exact ⟨rfl, hB6.alloc hs6 _⟩
  · obtain rfl := letter_ads hst (by simp; omega) (hp .nilFunc)
    refine (parse_ok w1 hk1 (by omega) hp).mono ?_
    rintro e w2 ⟨hb2, p, n, p', n', rfl, hv, hd⟩
    have hB2 := hb.trans (hb2.mono hsz)
    have hs2 := hB2.size
    simp only [List.length_nil] at hv ⊢
    go_wp2_with fail
    refine name_world (Q := fun W1 => Calls _ _ _ W1 _) _ fun W1 hW1 => ?_
    have hz : CB w2.heap.size { c with rv := .slice p 0 n, dv := .slice p' dst.length n' } W1 := by rw [hW1]; exact blk_new _ _
    have hB3' : Below w2.heap.size w2 W1 := by rw [hW1]; exact (Below.refl _ w2).alloc (Nat.le_refl _) _
    clear hW1
    have hB3 := hB2.trans (hB3'.mono hs2)
    have hs3 := hB3.size
    have hs3' := hB3'.size
    refine (digits_any f W1 (by omega)).mono ?_
    rintro e w3 ⟨rfl, hb3⟩
    have hB4 := hB3.trans (hb3.mono hs3)
    have hB4' := hB3'.trans (hb3.mono hs3')
    have hs4 := hB4.size
    have hs4' := hB4'.size
    go_wp2_with fail
    refine (digits_any t w3 (by omega)).mono ?_
    rintro e w4 ⟨rfl, hb4⟩
    have hB5 := hB4.trans (hb4.mono hs4)
    have hB5' := hB4'.trans (hb4.mono hs4')
    have hs5 := hB5.size
    have hs5' := hB5'.size
    go_wp2_with fail

    refine (parse_ok w4 (hk.below hB5) (by simp; omega) (c := c) (ads := [⟨1, f, 0, [], 0, false⟩, ⟨1, t, 0, [], 0, false⟩]) (dst := dst) (fun v => by rw [hsame v, hp v]; rfl)).mono ?_
    rintro e w5 ⟨hb5, p2, n2, q2, m2, rfl, hv2, hd2⟩
    have hB6 := hB5.trans (hb5.mono hs5)
    have hB6' := hB5'.trans (hb5.mono hs5')
    have hs6 := hB6.size
    obtain ⟨g, cap, he, hg, -, H⟩ := hv2.cells (by simp)
    cases he
    have c1 : w5.cell? ⟨g, 1, none⟩ = some (.int .i64 (f : Int)) := (H 0 (by simp)).2.1
    have c7 : w5.cell? ⟨g, 7, none⟩ = some (.int .i64 (t : Int)) := (H 1 (by simp)).2.1
    clear H
    have hz5 : CB w2.heap.size _ w5 := (hb5.block _ (by have := lt_of_blk hz; have := hb3.size; have := hb4.size; omega)).trans ((hb4.block _ (by have := lt_of_blk hz; have := hb3.size; omega)).trans ((hb3.block _ (lt_of_blk hz)).trans hz))
    obtain ⟨x0, x1, x2, x3, x4, x5, x6, x7, x8, x9⟩ := ten_cells hz5
    simp only [] at x0 x1 x2 x3 x4 x5 x6 x7 x8 x9
    have hltz := lt_of_blk hz5
    simp only [List.length_cons, List.length_nil]
    go_wp2_with fail
    refine name_world (Q := fun W1 => Calls _ _ _ W1 _) _ fun W3 hW3 => ?_
    have hB7 : Below w5.heap.size w5 W3 := by rw [hW3]; exact (Below.refl _ w5).alloc (Nat.le_refl _) _
    clear hW3
    refine (same15_eq w1.heap.size w4.heap.size c _ _ none _ _ _ 0 _ [] dst W3 ((hv.keep hB6').keep hB7) ((hd.keep hB6').keep hB7) (AdsV.nil _ _) (hd2.keep hB7)).mono ?_
    rintro e w7 ⟨rfl, hb7⟩
    have hB8 := hB6.trans (hB7.mono hs6)
    go_wp2_with fail
    go_ret
    exact ⟨rfl, hB8.trans (hb7.mono hB8.size)⟩

set_option maxRecDepth 100000 in
set_option maxHeartbeats 4000000 in
theorem range_nlo (y : UInt8) (r : Bs) (hl : (y :: r).length ≤ 300) (hlo : ((⟨(y :: r).toArray⟩ : ByteArray)[0]'(head0 y r)).toNat < 97) (e62 : ((((⟨(y :: r).toArray⟩ : ByteArray)[0]'(head0 y r)).toNat : Int) == 62) = false) (e60 : ((((⟨(y :: r).toArray⟩ : ByteArray)[0]'(head0 y r)).toNat : Int) == 60) = false) (e38 : ((((⟨(y :: r).toArray⟩ : ByteArray)[0]'(head0 y r)).toNat : Int) == 38) = false) (e126 : ((((⟨(y :: r).toArray⟩ : ByteArray)[0]'(head0 y r)).toNat : Int) == 126) = false) (e64 : ((((⟨(y :: r).toArray⟩ : ByteArray)[0]'(head0 y r)).toNat : Int) == 64) = false) (e61 : ((((⟨(y :: r).toArray⟩ : ByteArray)[0]'(head0 y r)).toNat : Int) == 61) = false) (f t : Nat) (w : World) (hk : Kn w) :
    Calls Tryd.prog 7 #[.string ⟨(y :: r).toArray⟩, .int .u16 (f : Int), .int .u16 (t : Int)] w fun e w' => e = .returned (.bool true) ∧ Below w.heap.size w w' := by
  have hl2 : r.length + 1 ≤ 300 := by simpa using hl
  have hne : ((r.length : Int) + 1 == 0) = false := by rw [beq_eq_false_iff_ne]; omega
  go_enter Tryd.func7, Tryd.ntmps7
  go_wp2_with fail
  refine (known_any w hk).mono ?_
  rintro e w1 ⟨rfl, hb⟩
  go_wp2_with fail
  go_ret
  exact ⟨rfl, hb⟩

set_option maxRecDepth 100000 in
set_option maxHeartbeats 4000000 in
theorem range_nhi (y : UInt8) (r : Bs) (hl : (y :: r).length ≤ 300) (hhi : 122 < ((⟨(y :: r).toArray⟩ : ByteArray)[0]'(head0 y r)).toNat) (e62 : ((((⟨(y :: r).toArray⟩ : ByteArray)[0]'(head0 y r)).toNat : Int) == 62) = false) (e60 : ((((⟨(y :: r).toArray⟩ : ByteArray)[0]'(head0 y r)).toNat : Int) == 60) = false) (e38 : ((((⟨(y :: r).toArray⟩ : ByteArray)[0]'(head0 y r)).toNat : Int) == 38) = false) (e126 : ((((⟨(y :: r).toArray⟩ : ByteArray)[0]'(head0 y r)).toNat : Int) == 126) = false) (e64 : ((((⟨(y :: r).toArray⟩ : ByteArray)[0]'(head0 y r)).toNat : Int) == 64) = false) (e61 : ((((⟨(y :: r).toArray⟩ : ByteArray)[0]'(head0 y r)).toNat : Int) == 61) = false) (f t : Nat) (w : World) (hk : Kn w) :
    Calls Tryd.prog 7 #[.string ⟨(y :: r).toArray⟩, .int .u16 (f : Int), .int .u16 (t : Int)] w fun e w' => e = .returned (.bool true) ∧ Below w.heap.size w w' := by
  have hl2 : r.length + 1 ≤ 300 := by simpa using hl
  have hne : ((r.length : Int) + 1 == 0) = false := by rw [beq_eq_false_iff_ne]; omega
  have hde : decide (((((⟨(y :: r).toArray⟩ : ByteArray)[0]'(head0 y r)).toNat : Nat) : Int) ≤ 122) = false := by rw [decide_eq_false_iff_not]; omega
  go_enter Tryd.func7, Tryd.ntmps7
  go_wp2_with fail
  refine (known_any w hk).mono ?_
  rintro e w1 ⟨rfl, hb⟩
  go_wp2_with fail
  go_ret
  exact ⟨rfl, hb⟩

set_option maxRecDepth 100000 in
set_option maxHeartbeats 4000000 in
theorem range_nil (f t : Nat) (w : World) (hk : Kn w) : Calls Tryd.prog 7 #[.string ⟨([] : Bs).toArray⟩, .int .u16 (f : Int), .int .u16 (t : Int)] w fun e w' => e = .returned (.bool true) ∧ Below w.heap.size w w' := by
  go_enter Tryd.func7, Tryd.ntmps7
  go_wp2_with fail
  refine (known_any w hk).mono ?_
  rintro e w1 ⟨rfl, hb⟩
  go_wp2_with fail
  go_ret
  exact ⟨rfl, hb⟩
theorem head0_eq' (y : UInt8) (r : Bs) : ((⟨(y :: r).toArray⟩ : ByteArray)[0]'(head0 y r)) = y := rfl
theorem starts_let : ∀ n : Fin 123, 97 ≤ n.val → starts (UInt8.ofNat n.val) = true := by decide
theorem starts_of {y : UInt8} (h1 : 97 ≤ y.toNat) (h2 : y.toNat ≤ 122) : starts y = true := by
  have := starts_let ⟨y.toNat, by omega⟩ h1
  simpa using this
set_option maxRecDepth 100000 in
set_option maxHeartbeats 4000000 in
theorem rangeLaw_in (l : Bs) (f t : Nat) (hf : f ≤ 65535) (ht : t ≤ 65535) (w : World) (hk : Kn w) :
    Calls Tryd.prog 7 #[.string ⟨l.toArray⟩, .int .u16 (f : Int), .int .u16 (t : Int)] w fun e w' => e = .returned (.bool true) ∧ Below w.heap.size w w' := by
  by_cases hl : 300 < l.length
  · go_enter Tryd.func7, Tryd.ntmps7
    go_wp2_with fail
    refine (known_any w hk).mono ?_
    rintro e w1 ⟨rfl, hb⟩
    go_wp2_with fail
    go_ret
    exact ⟨rfl, hb⟩
  · have hl' : l.length ≤ 300 := by omega
    clear hl
    rcases l with _ | ⟨y, r⟩
    · exact range_nil f t w hk
    · have hn := congrArg UInt8.toNat (head0_eq' y r)
      have et : ∀ k : Nat, y.toNat = k → (((((⟨(y :: r).toArray⟩ : ByteArray)[0]'(head0 y r)).toNat : Nat) : Int) == (k : Int)) = true := fun k h => by rw [hn, h]; simp
      have ef : ∀ k : Nat, y.toNat ≠ k → (((((⟨(y :: r).toArray⟩ : ByteArray)[0]'(head0 y r)).toNat : Nat) : Int) == (k : Int)) = false := fun k h => by rw [hn, beq_eq_false_iff_ne]; omega
      have eq : ∀ k : UInt8, y.toNat = k.toNat → y = k := fun k h => UInt8.toNat_inj.1 h
      by_cases hy : 97 ≤ y.toNat ∧ y.toNat ≤ 122
      · exact range_let y r hl' (starts_of hy.1 hy.2) (by rw [hn]; exact hy.1) (by rw [hn]; exact hy.2) f t hf ht w hk
      by_cases h62 : y.toNat = 62
      · exact range_s62 y r hl' (by rw [eq 62 h62]; rfl) (by rw [hn]; omega) (et 62 h62) (ef 60 (by omega)) (ef 38 (by omega)) (ef 126 (by omega)) (ef 64 (by omega)) (ef 61 (by omega)) f t hf ht w hk
      by_cases h60 : y.toNat = 60
      · exact range_s60 y r hl' (by rw [eq 60 h60]; rfl) (by rw [hn]; omega) (ef 62 (by omega)) (et 60 h60) (ef 38 (by omega)) (ef 126 (by omega)) (ef 64 (by omega)) (ef 61 (by omega)) f t hf ht w hk
      by_cases h38 : y.toNat = 38
      · exact range_s38 y r hl' (by rw [eq 38 h38]; rfl) (by rw [hn]; omega) (ef 62 (by omega)) (ef 60 (by omega)) (et 38 h38) (ef 126 (by omega)) (ef 64 (by omega)) (ef 61 (by omega)) f t hf ht w hk
      by_cases h126 : y.toNat = 126
      · exact range_s126 y r hl' (by rw [eq 126 h126]; rfl) (by rw [hn]; omega) (ef 62 (by omega)) (ef 60 (by omega)) (ef 38 (by omega)) (et 126 h126) (ef 64 (by omega)) (ef 61 (by omega)) f t hf ht w hk
      by_cases h64 : y.toNat = 64
      · exact range_s64 y r hl' (by rw [eq 64 h64]; rfl) (by rw [hn]; omega) (ef 62 (by omega)) (ef 60 (by omega)) (ef 38 (by omega)) (ef 126 (by omega)) (et 64 h64) (ef 61 (by omega)) f t hf ht w hk
      by_cases h61 : y.toNat = 61
      · exact range_s61 y r hl' (by rw [eq 61 h61]; rfl) (by rw [hn]; omega) (ef 62 (by omega)) (ef 60 (by omega)) (ef 38 (by omega)) (ef 126 (by omega)) (ef 64 (by omega)) (et 61 h61) f t hf ht w hk
      by_cases h97 : y.toNat < 97
      · exact range_nlo y r hl' (by rw [hn]; exact h97) (ef 62 h62) (ef 60 h60) (ef 38 h38) (ef 126 h126) (ef 64 h64) (ef 61 h61) f t w hk
      · exact range_nhi y r hl' (by rw [hn]; omega) (ef 62 h62) (ef 60 h60) (ef 38 h38) (ef 126 h126) (ef 64 h64) (ef 61 h61) f t w hk
theorem rangeLaw_any (l : Bs) (f : Int) (hf : (Lit.int .u16 f).wf = true) (t : Int) (ht : (Lit.int .u16 t).wf = true) (w : World) (hk : Kn w) :
    Calls Tryd.prog 7 #[.string ⟨l.toArray⟩, .int .u16 f, .int .u16 t] w fun e w' => e = .returned (.bool true) ∧ Below w.heap.size w w' := by
  obtain ⟨f0, f1⟩ := fit16 hf
  obtain ⟨t0, t1⟩ := fit16 ht
  obtain ⟨f', rfl⟩ := nat_of f0
  obtain ⟨t', rfl⟩ := nat_of t0
  exact rangeLaw_in l f' t' (by omega) (by omega) w hk
end Go.Proofs.YthajagmccaaanaaDoor
