/- emendatorlaw15.CmdWords: the walk. -/
import Derived.Test.YthajagmccaaanaaDoorWordLaw
import Derived.Test.YthajagmccaaanaaDoorSame
import Derived.Test.YthajagmccaaanaaDoorFit
namespace Go.Proofs.YthajagmccaaanaaDoor
open Go.RowKit

theorem row_long (i : Nat) (hi : i < 15) (h) : ([.string ⟨#[100, 101, 108, 101, 116, 101]⟩, .string ⟨#[109, 111, 118, 101]⟩, .string ⟨#[99, 111, 112, 121]⟩, .string ⟨#[99, 111]⟩, .string ⟨#[106, 111, 105, 110]⟩, .string ⟨#[121, 97, 110, 107]⟩, .string ⟨#[112, 117, 116]⟩, .string ⟨#[109, 97, 114, 107]⟩, .string ⟨#[115, 117, 98, 115, 116, 105, 116, 117, 116, 101]⟩, .string ⟨#[103, 108, 111, 98, 97, 108]⟩, .string ⟨#[118, 103, 108, 111, 98, 97, 108]⟩, .string ⟨#[110, 111, 114, 109, 97, 108]⟩, .string ⟨#[117, 110, 100, 111]⟩, .string ⟨#[114, 101, 100, 111]⟩, .string ⟨#[112, 114, 105, 110, 116]⟩] : List Value)[i]'h = .string ⟨(longW[i]'hi).toArray⟩ := by
  match i, hi with
  | 0, _ => rfl
  | 1, _ => rfl
  | 2, _ => rfl
  | 3, _ => rfl
  | 4, _ => rfl
  | 5, _ => rfl
  | 6, _ => rfl
  | 7, _ => rfl
  | 8, _ => rfl
  | 9, _ => rfl
  | 10, _ => rfl
  | 11, _ => rfl
  | 12, _ => rfl
  | 13, _ => rfl
  | 14, _ => rfl
theorem row_short (i : Nat) (hi : i < 15) (h) : ([.string ⟨#[100]⟩, .string ⟨#[109]⟩, .string ⟨#[116]⟩, .string ⟨#[116]⟩, .string ⟨#[106]⟩, .string ⟨#[121]⟩, .string ⟨#[112, 117]⟩, .string ⟨#[107]⟩, .string ⟨#[115]⟩, .string ⟨#[103]⟩, .string ⟨#[118]⟩, .string ⟨#[110, 111, 114, 109]⟩, .string ⟨#[117]⟩, .string ⟨#[114, 101, 100]⟩, .string ⟨#[112]⟩] : List Value)[i]'h = .string ⟨(shortW[i]'hi).toArray⟩ := by
  match i, hi with
  | 0, _ => rfl
  | 1, _ => rfl
  | 2, _ => rfl
  | 3, _ => rfl
  | 4, _ => rfl
  | 5, _ => rfl
  | 6, _ => rfl
  | 7, _ => rfl
  | 8, _ => rfl
  | 9, _ => rfl
  | 10, _ => rfl
  | 11, _ => rfl
  | 12, _ => rfl
  | 13, _ => rfl
  | 14, _ => rfl
theorem row_short' (i : Nat) (hi : i < 15) : (#[.string ⟨#[100]⟩, .string ⟨#[109]⟩, .string ⟨#[116]⟩, .string ⟨#[116]⟩, .string ⟨#[106]⟩, .string ⟨#[121]⟩, .string ⟨#[112, 117]⟩, .string ⟨#[107]⟩, .string ⟨#[115]⟩, .string ⟨#[103]⟩, .string ⟨#[118]⟩, .string ⟨#[110, 111, 114, 109]⟩, .string ⟨#[117]⟩, .string ⟨#[114, 101, 100]⟩, .string ⟨#[112]⟩] : Array Value)[i]? = some (.string ⟨(shortW[i]'hi).toArray⟩) := by
  match i, hi with
  | 0, _ => rfl
  | 1, _ => rfl
  | 2, _ => rfl
  | 3, _ => rfl
  | 4, _ => rfl
  | 5, _ => rfl
  | 6, _ => rfl
  | 7, _ => rfl
  | 8, _ => rfl
  | 9, _ => rfl
  | 10, _ => rfl
  | 11, _ => rfl
  | 12, _ => rfl
  | 13, _ => rfl
  | 14, _ => rfl
theorem cat2 (a b : Bs) : ((⟨a.toArray⟩ : ByteArray) ++ ⟨b.toArray⟩) = ⟨(a ++ b).toArray⟩ := by
  apply ByteArray.ext
  simp
theorem longW_len (i : Nat) (hi : i < 15) : (longW[i]'hi).length ≤ 10 := by
  have : ∀ j : Fin 15, (longW[j.val]'j.2).length ≤ 10 := by decide
  exact this ⟨i, hi⟩
theorem shortW_len (i : Nat) (hi : i < 15) : (shortW[i]'hi).length ≤ 10 := by
  have : ∀ j : Fin 15, (shortW[j.val]'j.2).length ≤ 10 := by decide
  exact this ⟨i, hi⟩

set_option maxRecDepth 100000 in
set_option maxHeartbeats 4000000 in
theorem words_nil (a : Int) (i : Nat) (hi : i < 15) (ha : a.tmod 15 = (i : Int)) (h0 : 0 ≤ a) (h1 : a ≤ 255) (w : World) (hk : Kn w) :
    Calls Tryd.prog 4 #[.int .u8 a, .string ⟨([] : Bs).toArray⟩] w fun e w' => e = .returned (.bool true) ∧ Below w.heap.size w w' := by
  go_enter Tryd.func4, Tryd.ntmps4
  go_wp2_with fail
  refine (known_any w hk).mono ?_
  rintro e w1 ⟨rfl, hb⟩
  have hk1 := hk.below hb
  have hsz := hb.size
  go_wp2_with fail
  rw [row_long i hi, binOp_string_add, run_string_add_lists _ _ _ (by have := longW_len i hi; omega) (by simp)]
  simp only [Result.andThen]
  rw [Oper.upon_value]
  go_wp2_with fail
  refine name_world (Q := fun W1 => Calls _ _ _ W1 _) _ fun W1 hW1 => ?_
  have hR : W1.heap[w1.heap.size + 1]? = some (.cells #[.string ⟨#[100]⟩, .string ⟨#[109]⟩, .string ⟨#[116]⟩, .string ⟨#[116]⟩, .string ⟨#[106]⟩, .string ⟨#[121]⟩, .string ⟨#[112, 117]⟩, .string ⟨#[107]⟩, .string ⟨#[115]⟩, .string ⟨#[103]⟩, .string ⟨#[118]⟩, .string ⟨#[110, 111, 114, 109]⟩, .string ⟨#[117]⟩, .string ⟨#[114, 101, 100]⟩, .string ⟨#[112]⟩] 9 (0, 0)) := by
    rw [hW1]
    have := blk_new (w1.alloc (.cells #[.string ⟨#[100, 101, 108, 101, 116, 101]⟩, .string ⟨#[109, 111, 118, 101]⟩, .string ⟨#[99, 111, 112, 121]⟩, .string ⟨#[99, 111]⟩, .string ⟨#[106, 111, 105, 110]⟩, .string ⟨#[121, 97, 110, 107]⟩, .string ⟨#[112, 117, 116]⟩, .string ⟨#[109, 97, 114, 107]⟩, .string ⟨#[115, 117, 98, 115, 116, 105, 116, 117, 116, 101]⟩, .string ⟨#[103, 108, 111, 98, 97, 108]⟩, .string ⟨#[118, 103, 108, 111, 98, 97, 108]⟩, .string ⟨#[110, 111, 114, 109, 97, 108]⟩, .string ⟨#[117, 110, 100, 111]⟩, .string ⟨#[114, 101, 100, 111]⟩, .string ⟨#[112, 114, 105, 110, 116]⟩] 9 (0, 0))) (.cells #[.string ⟨#[100]⟩, .string ⟨#[109]⟩, .string ⟨#[116]⟩, .string ⟨#[116]⟩, .string ⟨#[106]⟩, .string ⟨#[121]⟩, .string ⟨#[112, 117]⟩, .string ⟨#[107]⟩, .string ⟨#[115]⟩, .string ⟨#[103]⟩, .string ⟨#[118]⟩, .string ⟨#[110, 111, 114, 109]⟩, .string ⟨#[117]⟩, .string ⟨#[114, 101, 100]⟩, .string ⟨#[112]⟩] 9 (0, 0))
    simpa using this
  have hB1 : Below w.heap.size w W1 := by rw [hW1]; exact (hb.alloc hsz _).alloc (by simp; omega) _
  clear hW1
  have hkW := hk.below hB1
  have hs1 := hB1.size
  have hsame := words_same i hi ([]) (trivial) (by simp)
  have hla := longW_len i hi
  have hlb := shortW_len i hi
  simp only [List.append_nil] at hsame
  rcases parse_cases (longW[i]) with ⟨n, hp⟩ | ⟨c, ads, dst, hp⟩
  · refine (parse_err W1 hkW (by first | omega | (simp; omega)) hp).mono ?_
    rintro e w2 ⟨hb2, rfl⟩
    have hB2 := hB1.trans (hb2.mono hs1)
    have hs2 := hB2.size
    have hR2 := (hb2.block _ (lt_of_blk hR)).trans hR
    have hlt := lt_of_blk hR2
    have cS : w2.cell? ⟨w1.heap.size + 1, i, none⟩ = some (.string ⟨(shortW[i]'hi).toArray⟩) := by rw [Lib.cell_of_heap hR2]; exact row_short' i hi
    go_wp2_with fail
    rw [cat2]
    simp only [List.append_nil]
    refine name_world (Q := fun W1 => Calls _ _ _ W1 _) _ fun W2 hW2 => ?_
    have hz : CB w2.heap.size cmdZ W2 := by rw [hW2]; exact cb_new w2
    have hB3 : Below w.heap.size w W2 := by rw [hW2]; exact hB2.alloc hs2 _
    clear hW2
    have hs3 := hB3.size
    refine (parse_err W2 (hk.below hB3) (by first | omega | (simp; omega)) (fun v => (hsame v).symm.trans (hp v))).mono ?_
    rintro e w3 ⟨hb3, rfl⟩
    have hB4 := hB3.trans (hb3.mono hs3)
    have hs4 := hB4.size
    have hz3 : CB w2.heap.size cmdZ w3 := (hb3.block _ (lt_of_blk hz)).trans hz
    obtain ⟨x0, x1, x2, x3, x4, x5, x6, x7, x8, x9⟩ := ten_cells hz3
    simp only [cmdZ] at x0 x1 x2 x3 x4 x5 x6 x7 x8 x9
    have hltz := lt_of_blk hz3
    go_wp2_with fail
    refine (same15_zero _).mono ?_
    rintro e w5 ⟨rfl, hb5⟩
    go_wp2_with fail
    go_ret
    exact ⟨rfl, (hB4.alloc hs4 _).trans (hb5.mono (by simp; omega))⟩
  · refine (parse_ok W1 hkW (by first | omega | (simp; omega)) hp).mono ?_
    rintro e w2 ⟨hb2, p, n, p', n', rfl, hv, hd⟩
    have hB2 := hB1.trans (hb2.mono hs1)
    have hs2 := hB2.size
    have hR2 := (hb2.block _ (lt_of_blk hR)).trans hR
    have hlt := lt_of_blk hR2
    have cS : w2.cell? ⟨w1.heap.size + 1, i, none⟩ = some (.string ⟨(shortW[i]'hi).toArray⟩) := by rw [Lib.cell_of_heap hR2]; exact row_short' i hi
    go_wp2_with fail
    rw [cat2]
    simp only [List.append_nil]
    refine name_world (Q := fun W1 => Calls _ _ _ W1 _) _ fun W2 hW2 => ?_
    have hz : CB w2.heap.size { c with rv := .slice p ads.length n, dv := .slice p' dst.length n' } W2 := by rw [hW2]; exact blk_new _ _
    have hB3' : Below w2.heap.size w2 W2 := by rw [hW2]; exact (Below.refl _ w2).alloc (Nat.le_refl _) _
    clear hW2
    have hB3 := hB2.trans (hB3'.mono hs2)
    have hs3 := hB3.size
    refine (parse_ok W2 (hk.below hB3) (by first | omega | (simp; omega)) (fun v => (hsame v).symm.trans (hp v))).mono ?_
    rintro e w3 ⟨hb3, q, m, q', m', rfl, hv', hd'⟩
    have hB4 := hB3.trans (hb3.mono hs3)
    have hs4 := hB4.size
    have hK := hB3'.trans (hb3.mono hB3'.size)
    have hz3 := (hb3.block _ (lt_of_blk hz)).trans hz
    obtain ⟨x0, x1, x2, x3, x4, x5, x6, x7, x8, x9⟩ := ten_cells hz3
    simp only [] at x0 x1 x2 x3 x4 x5 x6 x7 x8 x9
    have hltz := lt_of_blk hz3
    go_wp2_with fail
    refine name_world (Q := fun W1 => Calls _ _ _ W1 _) _ fun W3 hW3 => ?_
    have hB5 : Below w3.heap.size w3 W3 := by rw [hW3]; exact (Below.refl _ w3).alloc (Nat.le_refl _) _
    clear hW3
    refine (same15_eq _ _ c _ _ _ _ _ _ _ _ ads dst W3 ((hv.keep hK).keep hB5) ((hd.keep hK).keep hB5) (hv'.keep hB5) (hd'.keep hB5)).mono ?_
    rintro e w5 ⟨rfl, hb5⟩
    have hB6 := hB4.trans (hB5.mono hs4)
    go_wp2_with fail
    go_ret
    exact ⟨rfl, hB6.trans (hb5.mono hB6.size)⟩

set_option maxRecDepth 100000 in
set_option maxHeartbeats 4000000 in
theorem words_lo (a : Int) (i : Nat) (hi : i < 15) (ha : a.tmod 15 = (i : Int)) (h0 : 0 ≤ a) (h1 : a ≤ 255) (y : UInt8) (r : Bs) (hl : (y :: r).length ≤ 100) (hy : ((⟨(y :: r).toArray⟩ : ByteArray)[0]'(head0 y r)).toNat < 97) (hnol : nol (y :: r)) (hb33 : ((((⟨(y :: r).toArray⟩ : ByteArray)[0]'(head0 y r)).toNat : Int) == 33) = false) (w : World) (hk : Kn w) :
    Calls Tryd.prog 4 #[.int .u8 a, .string ⟨(y :: r : Bs).toArray⟩] w fun e w' => e = .returned (.bool true) ∧ Below w.heap.size w w' := by
  have hl2 : r.length + 1 ≤ 100 := by simpa using hl
  go_enter Tryd.func4, Tryd.ntmps4
  go_wp2_with fail
  refine (known_any w hk).mono ?_
  rintro e w1 ⟨rfl, hb⟩
  have hk1 := hk.below hb
  have hsz := hb.size
  go_wp2_with fail
  rw [row_long i hi, binOp_string_add, run_string_add_lists _ _ _ (by have := longW_len i hi; omega) (by simp; omega)]
  simp only [Result.andThen]
  rw [Oper.upon_value]
  go_wp2_with fail
  refine name_world (Q := fun W1 => Calls _ _ _ W1 _) _ fun W1 hW1 => ?_
  have hR : W1.heap[w1.heap.size + 1]? = some (.cells #[.string ⟨#[100]⟩, .string ⟨#[109]⟩, .string ⟨#[116]⟩, .string ⟨#[116]⟩, .string ⟨#[106]⟩, .string ⟨#[121]⟩, .string ⟨#[112, 117]⟩, .string ⟨#[107]⟩, .string ⟨#[115]⟩, .string ⟨#[103]⟩, .string ⟨#[118]⟩, .string ⟨#[110, 111, 114, 109]⟩, .string ⟨#[117]⟩, .string ⟨#[114, 101, 100]⟩, .string ⟨#[112]⟩] 9 (0, 0)) := by
    rw [hW1]
    have := blk_new (w1.alloc (.cells #[.string ⟨#[100, 101, 108, 101, 116, 101]⟩, .string ⟨#[109, 111, 118, 101]⟩, .string ⟨#[99, 111, 112, 121]⟩, .string ⟨#[99, 111]⟩, .string ⟨#[106, 111, 105, 110]⟩, .string ⟨#[121, 97, 110, 107]⟩, .string ⟨#[112, 117, 116]⟩, .string ⟨#[109, 97, 114, 107]⟩, .string ⟨#[115, 117, 98, 115, 116, 105, 116, 117, 116, 101]⟩, .string ⟨#[103, 108, 111, 98, 97, 108]⟩, .string ⟨#[118, 103, 108, 111, 98, 97, 108]⟩, .string ⟨#[110, 111, 114, 109, 97, 108]⟩, .string ⟨#[117, 110, 100, 111]⟩, .string ⟨#[114, 101, 100, 111]⟩, .string ⟨#[112, 114, 105, 110, 116]⟩] 9 (0, 0))) (.cells #[.string ⟨#[100]⟩, .string ⟨#[109]⟩, .string ⟨#[116]⟩, .string ⟨#[116]⟩, .string ⟨#[106]⟩, .string ⟨#[121]⟩, .string ⟨#[112, 117]⟩, .string ⟨#[107]⟩, .string ⟨#[115]⟩, .string ⟨#[103]⟩, .string ⟨#[118]⟩, .string ⟨#[110, 111, 114, 109]⟩, .string ⟨#[117]⟩, .string ⟨#[114, 101, 100]⟩, .string ⟨#[112]⟩] 9 (0, 0))
    simpa using this
  have hB1 : Below w.heap.size w W1 := by rw [hW1]; exact (hb.alloc hsz _).alloc (by simp; omega) _
  clear hW1
  have hkW := hk.below hB1
  have hs1 := hB1.size
  have hsame := words_same i hi (y :: r) (hnol) (hl)
  have hla := longW_len i hi
  have hlb := shortW_len i hi
  rcases parse_cases (longW[i] ++ y :: r) with ⟨n, hp⟩ | ⟨c, ads, dst, hp⟩
  · refine (parse_err W1 hkW (by first | omega | (simp; omega)) hp).mono ?_
    rintro e w2 ⟨hb2, rfl⟩
    have hB2 := hB1.trans (hb2.mono hs1)
    have hs2 := hB2.size
    have hR2 := (hb2.block _ (lt_of_blk hR)).trans hR
    have hlt := lt_of_blk hR2
    have cS : w2.cell? ⟨w1.heap.size + 1, i, none⟩ = some (.string ⟨(shortW[i]'hi).toArray⟩) := by rw [Lib.cell_of_heap hR2]; exact row_short' i hi
    go_wp2_with fail
    rw [cat2]
    refine name_world (Q := fun W1 => Calls _ _ _ W1 _) _ fun W2 hW2 => ?_
    have hz : CB w2.heap.size cmdZ W2 := by rw [hW2]; exact cb_new w2
    have hB3 : Below w.heap.size w W2 := by rw [hW2]; exact hB2.alloc hs2 _
    clear hW2
    have hs3 := hB3.size
    refine (parse_err W2 (hk.below hB3) (by first | omega | (simp; omega)) (fun v => (hsame v).symm.trans (hp v))).mono ?_
    rintro e w3 ⟨hb3, rfl⟩
    have hB4 := hB3.trans (hb3.mono hs3)
    have hs4 := hB4.size
    have hz3 : CB w2.heap.size cmdZ w3 := (hb3.block _ (lt_of_blk hz)).trans hz
    obtain ⟨x0, x1, x2, x3, x4, x5, x6, x7, x8, x9⟩ := ten_cells hz3
    simp only [cmdZ] at x0 x1 x2 x3 x4 x5 x6 x7 x8 x9
    have hltz := lt_of_blk hz3
    go_wp2_with fail
    refine (same15_zero _).mono ?_
    rintro e w5 ⟨rfl, hb5⟩
    go_wp2_with fail
    go_ret
    exact ⟨rfl, (hB4.alloc hs4 _).trans (hb5.mono (by simp; omega))⟩
  · refine (parse_ok W1 hkW (by first | omega | (simp; omega)) hp).mono ?_
    rintro e w2 ⟨hb2, p, n, p', n', rfl, hv, hd⟩
    have hB2 := hB1.trans (hb2.mono hs1)
    have hs2 := hB2.size
    have hR2 := (hb2.block _ (lt_of_blk hR)).trans hR
    have hlt := lt_of_blk hR2
    have cS : w2.cell? ⟨w1.heap.size + 1, i, none⟩ = some (.string ⟨(shortW[i]'hi).toArray⟩) := by rw [Lib.cell_of_heap hR2]; exact row_short' i hi
    go_wp2_with fail
    rw [cat2]
    refine name_world (Q := fun W1 => Calls _ _ _ W1 _) _ fun W2 hW2 => ?_
    have hz : CB w2.heap.size { c with rv := .slice p ads.length n, dv := .slice p' dst.length n' } W2 := by rw [hW2]; exact blk_new _ _
    have hB3' : Below w2.heap.size w2 W2 := by rw [hW2]; exact (Below.refl _ w2).alloc (Nat.le_refl _) _
    clear hW2
    have hB3 := hB2.trans (hB3'.mono hs2)
    have hs3 := hB3.size
    refine (parse_ok W2 (hk.below hB3) (by first | omega | (simp; omega)) (fun v => (hsame v).symm.trans (hp v))).mono ?_
    rintro e w3 ⟨hb3, q, m, q', m', rfl, hv', hd'⟩
    have hB4 := hB3.trans (hb3.mono hs3)
    have hs4 := hB4.size
    have hK := hB3'.trans (hb3.mono hB3'.size)
    have hz3 := (hb3.block _ (lt_of_blk hz)).trans hz
    obtain ⟨x0, x1, x2, x3, x4, x5, x6, x7, x8, x9⟩ := ten_cells hz3
    simp only [] at x0 x1 x2 x3 x4 x5 x6 x7 x8 x9
    have hltz := lt_of_blk hz3
    go_wp2_with fail
    refine name_world (Q := fun W1 => Calls _ _ _ W1 _) _ fun W3 hW3 => ?_
    have hB5 : Below w3.heap.size w3 W3 := by rw [hW3]; exact (Below.refl _ w3).alloc (Nat.le_refl _) _
    clear hW3
    refine (same15_eq _ _ c _ _ _ _ _ _ _ _ ads dst W3 ((hv.keep hK).keep hB5) ((hd.keep hK).keep hB5) (hv'.keep hB5) (hd'.keep hB5)).mono ?_
    rintro e w5 ⟨rfl, hb5⟩
    have hB6 := hB4.trans (hB5.mono hs4)
    go_wp2_with fail
    go_ret
    exact ⟨rfl, hB6.trans (hb5.mono hB6.size)⟩

set_option maxRecDepth 100000 in
set_option maxHeartbeats 4000000 in
theorem words_hi (a : Int) (i : Nat) (hi : i < 15) (ha : a.tmod 15 = (i : Int)) (h0 : 0 ≤ a) (h1 : a ≤ 255) (y : UInt8) (r : Bs) (hl : (y :: r).length ≤ 100) (hy : 122 < ((⟨(y :: r).toArray⟩ : ByteArray)[0]'(head0 y r)).toNat) (hnol : nol (y :: r)) (hb33 : ((((⟨(y :: r).toArray⟩ : ByteArray)[0]'(head0 y r)).toNat : Int) == 33) = false) (w : World) (hk : Kn w) :
    Calls Tryd.prog 4 #[.int .u8 a, .string ⟨(y :: r : Bs).toArray⟩] w fun e w' => e = .returned (.bool true) ∧ Below w.heap.size w w' := by
  have hl2 : r.length + 1 ≤ 100 := by simpa using hl
  go_enter Tryd.func4, Tryd.ntmps4
  go_wp2_with fail
  refine (known_any w hk).mono ?_
  rintro e w1 ⟨rfl, hb⟩
  have hk1 := hk.below hb
  have hsz := hb.size
  go_wp2_with fail
  rw [row_long i hi, binOp_string_add, run_string_add_lists _ _ _ (by have := longW_len i hi; omega) (by simp; omega)]
  simp only [Result.andThen]
  rw [Oper.upon_value]
  go_wp2_with fail
  refine name_world (Q := fun W1 => Calls _ _ _ W1 _) _ fun W1 hW1 => ?_
  have hR : W1.heap[w1.heap.size + 1]? = some (.cells #[.string ⟨#[100]⟩, .string ⟨#[109]⟩, .string ⟨#[116]⟩, .string ⟨#[116]⟩, .string ⟨#[106]⟩, .string ⟨#[121]⟩, .string ⟨#[112, 117]⟩, .string ⟨#[107]⟩, .string ⟨#[115]⟩, .string ⟨#[103]⟩, .string ⟨#[118]⟩, .string ⟨#[110, 111, 114, 109]⟩, .string ⟨#[117]⟩, .string ⟨#[114, 101, 100]⟩, .string ⟨#[112]⟩] 9 (0, 0)) := by
    rw [hW1]
    have := blk_new (w1.alloc (.cells #[.string ⟨#[100, 101, 108, 101, 116, 101]⟩, .string ⟨#[109, 111, 118, 101]⟩, .string ⟨#[99, 111, 112, 121]⟩, .string ⟨#[99, 111]⟩, .string ⟨#[106, 111, 105, 110]⟩, .string ⟨#[121, 97, 110, 107]⟩, .string ⟨#[112, 117, 116]⟩, .string ⟨#[109, 97, 114, 107]⟩, .string ⟨#[115, 117, 98, 115, 116, 105, 116, 117, 116, 101]⟩, .string ⟨#[103, 108, 111, 98, 97, 108]⟩, .string ⟨#[118, 103, 108, 111, 98, 97, 108]⟩, .string ⟨#[110, 111, 114, 109, 97, 108]⟩, .string ⟨#[117, 110, 100, 111]⟩, .string ⟨#[114, 101, 100, 111]⟩, .string ⟨#[112, 114, 105, 110, 116]⟩] 9 (0, 0))) (.cells #[.string ⟨#[100]⟩, .string ⟨#[109]⟩, .string ⟨#[116]⟩, .string ⟨#[116]⟩, .string ⟨#[106]⟩, .string ⟨#[121]⟩, .string ⟨#[112, 117]⟩, .string ⟨#[107]⟩, .string ⟨#[115]⟩, .string ⟨#[103]⟩, .string ⟨#[118]⟩, .string ⟨#[110, 111, 114, 109]⟩, .string ⟨#[117]⟩, .string ⟨#[114, 101, 100]⟩, .string ⟨#[112]⟩] 9 (0, 0))
    simpa using this
  have hB1 : Below w.heap.size w W1 := by rw [hW1]; exact (hb.alloc hsz _).alloc (by simp; omega) _
  clear hW1
  have hkW := hk.below hB1
  have hs1 := hB1.size
  have hsame := words_same i hi (y :: r) (hnol) (hl)
  have hla := longW_len i hi
  have hlb := shortW_len i hi
  rcases parse_cases (longW[i] ++ y :: r) with ⟨n, hp⟩ | ⟨c, ads, dst, hp⟩
  · refine (parse_err W1 hkW (by first | omega | (simp; omega)) hp).mono ?_
    rintro e w2 ⟨hb2, rfl⟩
    have hB2 := hB1.trans (hb2.mono hs1)
    have hs2 := hB2.size
    have hR2 := (hb2.block _ (lt_of_blk hR)).trans hR
    have hlt := lt_of_blk hR2
    have cS : w2.cell? ⟨w1.heap.size + 1, i, none⟩ = some (.string ⟨(shortW[i]'hi).toArray⟩) := by rw [Lib.cell_of_heap hR2]; exact row_short' i hi
    go_wp2_with fail
    rw [cat2]
    refine name_world (Q := fun W1 => Calls _ _ _ W1 _) _ fun W2 hW2 => ?_
    have hz : CB w2.heap.size cmdZ W2 := by rw [hW2]; exact cb_new w2
    have hB3 : Below w.heap.size w W2 := by rw [hW2]; exact hB2.alloc hs2 _
    clear hW2
    have hs3 := hB3.size
    refine (parse_err W2 (hk.below hB3) (by first | omega | (simp; omega)) (fun v => (hsame v).symm.trans (hp v))).mono ?_
    rintro e w3 ⟨hb3, rfl⟩
    have hB4 := hB3.trans (hb3.mono hs3)
    have hs4 := hB4.size
    have hz3 : CB w2.heap.size cmdZ w3 := (hb3.block _ (lt_of_blk hz)).trans hz
    obtain ⟨x0, x1, x2, x3, x4, x5, x6, x7, x8, x9⟩ := ten_cells hz3
    simp only [cmdZ] at x0 x1 x2 x3 x4 x5 x6 x7 x8 x9
    have hltz := lt_of_blk hz3
    go_wp2_with fail
    refine (same15_zero _).mono ?_
    rintro e w5 ⟨rfl, hb5⟩
    go_wp2_with fail
    go_ret
    exact ⟨rfl, (hB4.alloc hs4 _).trans (hb5.mono (by simp; omega))⟩
  · refine (parse_ok W1 hkW (by first | omega | (simp; omega)) hp).mono ?_
    rintro e w2 ⟨hb2, p, n, p', n', rfl, hv, hd⟩
    have hB2 := hB1.trans (hb2.mono hs1)
    have hs2 := hB2.size
    have hR2 := (hb2.block _ (lt_of_blk hR)).trans hR
    have hlt := lt_of_blk hR2
    have cS : w2.cell? ⟨w1.heap.size + 1, i, none⟩ = some (.string ⟨(shortW[i]'hi).toArray⟩) := by rw [Lib.cell_of_heap hR2]; exact row_short' i hi
    go_wp2_with fail
    rw [cat2]
    refine name_world (Q := fun W1 => Calls _ _ _ W1 _) _ fun W2 hW2 => ?_
    have hz : CB w2.heap.size { c with rv := .slice p ads.length n, dv := .slice p' dst.length n' } W2 := by rw [hW2]; exact blk_new _ _
    have hB3' : Below w2.heap.size w2 W2 := by rw [hW2]; exact (Below.refl _ w2).alloc (Nat.le_refl _) _
    clear hW2
    have hB3 := hB2.trans (hB3'.mono hs2)
    have hs3 := hB3.size
    refine (parse_ok W2 (hk.below hB3) (by first | omega | (simp; omega)) (fun v => (hsame v).symm.trans (hp v))).mono ?_
    rintro e w3 ⟨hb3, q, m, q', m', rfl, hv', hd'⟩
    have hB4 := hB3.trans (hb3.mono hs3)
    have hs4 := hB4.size
    have hK := hB3'.trans (hb3.mono hB3'.size)
    have hz3 := (hb3.block _ (lt_of_blk hz)).trans hz
    obtain ⟨x0, x1, x2, x3, x4, x5, x6, x7, x8, x9⟩ := ten_cells hz3
    simp only [] at x0 x1 x2 x3 x4 x5 x6 x7 x8 x9
    have hltz := lt_of_blk hz3
    go_wp2_with fail
    refine name_world (Q := fun W1 => Calls _ _ _ W1 _) _ fun W3 hW3 => ?_
    have hB5 : Below w3.heap.size w3 W3 := by rw [hW3]; exact (Below.refl _ w3).alloc (Nat.le_refl _) _
    clear hW3
    refine (same15_eq _ _ c _ _ _ _ _ _ _ _ ads dst W3 ((hv.keep hK).keep hB5) ((hd.keep hK).keep hB5) (hv'.keep hB5) (hd'.keep hB5)).mono ?_
    rintro e w5 ⟨rfl, hb5⟩
    have hB6 := hB4.trans (hB5.mono hs4)
    go_wp2_with fail
    go_ret
    exact ⟨rfl, hB6.trans (hb5.mono hB6.size)⟩

set_option maxRecDepth 100000 in
set_option maxHeartbeats 4000000 in
theorem words_let (a : Int) (h0 : 0 ≤ a) (h1 : a ≤ 255) (y : UInt8) (r : Bs) (hl : (y :: r).length ≤ 100) (hy : 97 ≤ ((⟨(y :: r).toArray⟩ : ByteArray)[0]'(head0 y r)).toNat ∧ ((⟨(y :: r).toArray⟩ : ByteArray)[0]'(head0 y r)).toNat ≤ 122) (w : World) (hk : Kn w) :
    Calls Tryd.prog 4 #[.int .u8 a, .string ⟨(y :: r).toArray⟩] w fun e w' => e = .returned (.bool true) ∧ Below w.heap.size w w' := by
  have hl2 : r.length + 1 ≤ 100 := by simpa using hl
  obtain ⟨hy1, hy2⟩ := hy
  obtain ⟨i, hi, ha⟩ : ∃ i : Nat, i < 15 ∧ a.tmod 15 = (i : Int) := ⟨(a % 15).toNat, by omega, by rw [Int.tmod_eq_emod_of_nonneg h0]; omega⟩
  go_enter Tryd.func4, Tryd.ntmps4
  go_wp2_with fail
  refine (known_any w hk).mono ?_
  rintro e w1 ⟨rfl, hb⟩
  have hsz := hb.size
  go_wp2_with fail
  go_ret
  exact ⟨rfl, (hb.alloc hsz _).alloc (by simp; omega) _⟩
set_option maxRecDepth 100000 in
set_option maxHeartbeats 4000000 in
theorem words_bang (a : Int) (h0 : 0 ≤ a) (h1 : a ≤ 255) (y : UInt8) (r : Bs) (hl : (y :: r).length ≤ 100) (hy : ((⟨(y :: r).toArray⟩ : ByteArray)[0]'(head0 y r)).toNat = 33) (w : World) (hk : Kn w) :
    Calls Tryd.prog 4 #[.int .u8 a, .string ⟨(y :: r).toArray⟩] w fun e w' => e = .returned (.bool true) ∧ Below w.heap.size w w' := by
  have hl2 : r.length + 1 ≤ 100 := by simpa using hl
  have hb33 : ((((⟨(y :: r).toArray⟩ : ByteArray)[0]'(head0 y r)).toNat : Int) == 33) = true := by rw [hy]; rfl
  obtain ⟨i, hi, ha⟩ : ∃ i : Nat, i < 15 ∧ a.tmod 15 = (i : Int) := ⟨(a % 15).toNat, by omega, by rw [Int.tmod_eq_emod_of_nonneg h0]; omega⟩
  go_enter Tryd.func4, Tryd.ntmps4
  go_wp2_with fail
  refine (known_any w hk).mono ?_
  rintro e w1 ⟨rfl, hb⟩
  have hsz := hb.size
  go_wp2_with fail
  go_ret
  exact ⟨rfl, (hb.alloc hsz _).alloc (by simp; omega) _⟩

theorem head0_eq (y : UInt8) (r : Bs) : ((⟨(y :: r).toArray⟩ : ByteArray)[0]'(head0 y r)) = y := rfl
set_option maxRecDepth 100000 in
set_option maxHeartbeats 4000000 in
theorem wordsLaw_in (a : Int) (h0 : 0 ≤ a) (h1 : a ≤ 255) (l : Bs) (w : World) (hk : Kn w) :
    Calls Tryd.prog 4 #[.int .u8 a, .string ⟨l.toArray⟩] w fun e w' => e = .returned (.bool true) ∧ Below w.heap.size w w' := by
  by_cases hl : 100 < l.length
  · go_enter Tryd.func4, Tryd.ntmps4
    go_wp2_with fail
    refine (known_any w hk).mono ?_
    rintro e w1 ⟨rfl, hb⟩
    go_wp2_with fail
    go_ret
    exact ⟨rfl, hb⟩
  · have hl' : l.length ≤ 100 := by omega
    clear hl
    obtain ⟨i, hi, ha⟩ : ∃ i : Nat, i < 15 ∧ a.tmod 15 = (i : Int) := ⟨(a % 15).toNat, by omega, by rw [Int.tmod_eq_emod_of_nonneg h0]; omega⟩
    rcases l with _ | ⟨y, r⟩
    · exact words_nil a i hi ha h0 h1 w hk
    · have hn := congrArg UInt8.toNat (head0_eq y r)
      by_cases hy : 97 ≤ y.toNat ∧ y.toNat ≤ 122
      · exact words_let a h0 h1 y r hl' (by rw [hn]; exact hy) w hk
      · by_cases h33 : y.toNat = 33
        · exact words_bang a h0 h1 y r hl' (by rw [hn]; exact h33) w hk
        · have hnol : nol (y :: r) := by
            intro c hc1 hc2 h
            subst h
            have q1 : (97 : UInt8).toNat ≤ y.toNat := hc1
            have q2 : y.toNat ≤ (122 : UInt8).toNat := hc2
            exact hy ⟨q1, q2⟩
          have e33 : (((((⟨(y :: r).toArray⟩ : ByteArray)[0]'(head0 y r)).toNat : Nat) : Int) == 33) = false := by rw [hn, beq_eq_false_iff_ne]; omega
          by_cases h97 : y.toNat < 97
          · exact words_lo a i hi ha h0 h1 y r hl' (by rw [hn]; exact h97) hnol e33 w hk
          · exact words_hi a i hi ha h0 h1 y r hl' (by rw [hn]; omega) hnol e33 w hk
theorem wordsLaw_any (a : Int) (ha : (Lit.int .u8 a).wf = true) (l : Bs) (w : World) (hk : Kn w) :
    Calls Tryd.prog 4 #[.int .u8 a, .string ⟨l.toArray⟩] w fun e w' => e = .returned (.bool true) ∧ Below w.heap.size w w' :=
  wordsLaw_in a (fit8 ha).1 (fit8 ha).2 l w hk
end Go.Proofs.YthajagmccaaanaaDoor
