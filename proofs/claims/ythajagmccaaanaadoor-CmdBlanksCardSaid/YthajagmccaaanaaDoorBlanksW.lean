/- emendatorlaw15.CmdBlanks: the walk. -/
import Derived.Test.YthajagmccaaanaaDoorDigits
namespace Go.Proofs.YthajagmccaaanaaDoor
open Go.RowKit

theorem cat_plain (s d : Bs) : ((⟨s.toArray⟩ : ByteArray) ++ ⟨#[32]⟩ ++ ⟨d.toArray⟩) = ⟨(s ++ 32 :: d).toArray⟩ := by
  rw [show (⟨#[32]⟩ : ByteArray) = ⟨([32] : Bs).toArray⟩ from rfl]
  simp only [ByteArray.mk_append_mk]
  simp
theorem cat_padded (b s d : Bs) : ((⟨b.toArray⟩ : ByteArray) ++ ⟨#[58]⟩ ++ ⟨b.toArray⟩ ++ ⟨s.toArray⟩ ++ ⟨#[32]⟩ ++ ⟨b.toArray⟩ ++ ⟨d.toArray⟩ ++ ⟨b.toArray⟩) = ⟨(b ++ 58 :: (b ++ (s ++ 32 :: (b ++ (d ++ b))))).toArray⟩ := by
  rw [show (⟨#[32]⟩ : ByteArray) = ⟨([32] : Bs).toArray⟩ from rfl, show (⟨#[58]⟩ : ByteArray) = ⟨([58] : Bs).toArray⟩ from rfl]
  simp only [ByteArray.mk_append_mk]
  simp
/-- What the law puts ahead and behind. -/
def padL : Nat → Bs
  | 0 => []
  | i + 1 => padL i ++ [if i % 2 = 0 then 32 else 9]
theorem padL_bl (i : Nat) : Bl (padL i) := by
  induction i with
  | zero => exact Bl.nil
  | succ i ih =>
    intro c hc
    unfold padL at hc
    rcases List.mem_append.1 hc with hc | hc
    · exact ih c hc
    · simp only [List.mem_singleton] at hc
      subst hc
      by_cases h : i % 2 = 0
      · rw [if_pos h]; exact .inl rfl
      · rw [if_neg h]; exact .inr rfl
theorem padL_len (i : Nat) : (padL i).length = i := by
  induction i with
  | zero => rfl
  | succ i ih => unfold padL; simp [ih]
theorem row_num (i : Nat) (hi : i < 10) (h) : ([.string ⟨#[100]⟩, .string ⟨#[121]⟩, .string ⟨#[106]⟩, .string ⟨#[112]⟩, .string ⟨#[117]⟩, .string ⟨#[101, 97, 114, 108, 105, 101, 114]⟩, .string ⟨#[108, 97, 116, 101, 114]⟩, .string ⟨#[62]⟩, .string ⟨#[60]⟩, .string ⟨#[61]⟩] : List Value)[i]'h = .string ⟨(numW[i]'hi).toArray⟩ := by
  match i, hi with
  | 0, _ => rfl
  | 1, _ => rfl
  | 2, _ => rfl
  | 3, _ => rfl
  | 4, _ => rfl
  | 5, _ => rfl
  | 6, _ => rfl
  | 7, _ => rfl
  | 8, _ => rfl
  | 9, _ => rfl

set_option maxRecDepth 100000 in
set_option maxHeartbeats 4000000 in
theorem blanksLaw_in (a : Int) (i : Nat) (hi : i < 10) (ha : a.tmod 10 = (i : Int)) (h0 : 0 ≤ a) (h1 : a ≤ 255) (n : Nat) (hn : n ≤ 65535) (b : Int) (m : Nat) (hm : m < 6) (hb : b.tmod 6 = (m : Int)) (hb0 : 0 ≤ b) (hb1 : b ≤ 255) (w : World) (hk : Kn w) :
    Calls Tryd.prog 5 #[.int .u8 a, .int .u16 (n : Int), .int .u8 b] w fun e w' => e = .returned (.bool true) ∧ Below w.heap.size w w' := by
  go_enter Tryd.func5, Tryd.ntmps5
  go_wp2_with fail
  rw [row_num i hi]
  have hwl := numW_len i hi
  generalize hs : numW[i]'hi = s at hwl ⊢
  go_loopg [8, 9] (m + 1) (fun gk pad ii wr => ∃ j : Nat, gk + j = m + 1 ∧ j ≤ m ∧ pad = .string ⟨(padL j).toArray⟩ ∧ ii = .int .i64 j ∧ Below w.heap.size w wr)
  case atStart => exact ⟨0, rfl, Nat.zero_le _, rfl, rfl, (Below.refl _ w).alloc (Nat.le_refl _) _⟩
  case round =>
    obtain ⟨j, hgk, hj, rfl, rfl, hB⟩ := hrel
    have hpl := padL_len j
    have hszB := hB.size
    by_cases hlt : j < m
    · rcases (by omega : j % 2 = 0 ∨ j % 2 = 1) with hpar | hpar
      · have hq : (j : Int) % 2 = 0 := by omega
        go_wp2_with fail
        go_roundg (gk - 1)
        case measure => omega
        case rel =>
          refine ⟨j + 1, by omega, by omega, ?_, by go_num, hB.alloc hszB _⟩
          show _ = Value.string ⟨(padL j ++ [if j % 2 = 0 then 32 else 9]).toArray⟩
          rw [if_pos hpar, ← ByteArray.mk_append_mk]
      · have hq : (j : Int) % 2 = 1 := by omega
        go_wp2_with fail
        go_roundg (gk - 1)
        case measure => omega
        case rel =>
          refine ⟨j + 1, by omega, by omega, ?_, by go_num, hB.alloc hszB _⟩
          show _ = Value.string ⟨(padL j ++ [if j % 2 = 0 then 32 else 9]).toArray⟩
          rw [if_neg (by omega), ← ByteArray.mk_append_mk]
    · obtain rfl : j = m := by omega
      have hdl := digL_len 8 n (by omega)
      obtain ⟨A, hp1, hp2⟩ : ∃ A : Bs, (∀ v, parseR v (s ++ 32 :: digL n) = .ok (⟨v, s, false, 0, n, .slice none 0 0, [], [], [], A⟩, [], [])) ∧
          ∀ v, parseR v (padL j ++ 58 :: (padL j ++ (s ++ 32 :: (padL j ++ (digL n ++ padL j))))) = .ok (⟨v, s, false, 0, n, .slice none 0 0, [], [], [], A⟩, [], []) := by
        subst hs
        exact ⟨_, fun v => num_plain i hi n (by omega) v, fun v => num_padded i hi n (by omega) (padL_bl j) (by omega) v⟩
      clear hs
      have hc1 := cat_plain s (digL n)
      have hc2 := cat_padded (padL j) s (digL n)
      go_wp2_with fail
      refine (digits_any n wr (by omega)).mono ?_
      rintro e w1 ⟨rfl, hb1⟩
      have hB1 := hB.trans (hb1.mono hszB)
      have hs1 := hB1.size
      go_wp2_with fail
      refine (parse_ok w1 (hk.below hB1) (by simp; omega) (c := ⟨.nilFunc, s, false, 0, n, .slice none 0 0, [], [], [], A⟩) hp1).mono ?_
      rintro e w2 ⟨hb2, p, n1, p', n1', rfl, hv, hd⟩
      have hB2 := hB1.trans (hb2.mono hs1)
      have hs2 := hB2.size
      simp only [List.length_nil] at hv hd ⊢
      go_wp2_with fail
      refine name_world (Q := fun W1 => Calls _ _ _ W1 _) _ fun W1 hW1 => ?_
      have hz : CB w2.heap.size ⟨.slice p 0 n1, s, false, 0, n, .slice p' 0 n1', [], [], [], A⟩ W1 := by rw [hW1]; exact blk_new _ _
      have hB3' : Below w2.heap.size w2 W1 := by rw [hW1]; exact (Below.refl _ w2).alloc (Nat.le_refl _) _
      clear hW1
      have hB3 := hB2.trans (hB3'.mono hs2)
      have hs3 := hB3.size
      have hs3' := hB3'.size
      refine (digits_any n W1 (by omega)).mono ?_
      rintro e w3 ⟨rfl, hb3⟩
      have hB4 := hB3.trans (hb3.mono hs3)
      have hB4' := hB3'.trans (hb3.mono hs3')
      have hs4 := hB4.size
      have hs4' := hB4'.size
      go_wp2_with fail
      refine (parse_ok w3 (hk.below hB4) (by simp; omega) (c := ⟨.nilFunc, s, false, 0, n, .slice none 0 0, [], [], [], A⟩) hp2).mono ?_
      rintro e w4 ⟨hb4, q, n2, q', n2', rfl, hv2, hd2⟩
      have hB5 := hB4.trans (hb4.mono hs4)
      have hB5' := hB4'.trans (hb4.mono hs4')
      have hs5 := hB5.size
      have hz4 : CB w2.heap.size ⟨.slice p 0 n1, s, false, 0, n, .slice p' 0 n1', [], [], [], A⟩ w4 := (hb4.block _ (by have := lt_of_blk hz; have := hb3.size; omega)).trans ((hb3.block _ (lt_of_blk hz)).trans hz)
      simp only [List.length_nil] at hv2 hd2 ⊢
      go_wp2_with fail
      refine name_world (Q := fun W1 => Calls _ _ _ W1 _) _ fun W2 hW2 => ?_
      have hy : CB w4.heap.size ⟨.slice q 0 n2, s, false, 0, n, .slice q' 0 n2', [], [], [], A⟩ W2 := by rw [hW2]; exact blk_new _ _
      have hB6' : Below w4.heap.size w4 W2 := by rw [hW2]; exact (Below.refl _ w4).alloc (Nat.le_refl _) _
      clear hW2
      have hB6 := hB5.trans (hB6'.mono hs5)
      have hs6 := hB6.size
      refine (known_any W2 (hk.below hB6)).mono ?_
      rintro e w5 ⟨rfl, hb5⟩
      have hB7 := hB6.trans (hb5.mono hs6)
      have hs7 := hB7.size
      have hK := hB6'.trans (hb5.mono hB6'.size)
      have hz5 : CB w2.heap.size ⟨.slice p 0 n1, s, false, 0, n, .slice p' 0 n1', [], [], [], A⟩ w5 := (hK.block _ (lt_of_blk hz4)).trans hz4
      have hy5 : CB w4.heap.size ⟨.slice q 0 n2, s, false, 0, n, .slice q' 0 n2', [], [], [], A⟩ w5 := (hb5.block _ (lt_of_blk hy)).trans hy
      obtain ⟨x0, x1, x2, x3, x4, x5, x6, x7, x8, x9⟩ := ten_cells hz5
      obtain ⟨y0, y1, y2, y3, y4, y5, y6, y7, y8, y9⟩ := ten_cells hy5
      simp only [] at x0 x1 x2 x3 x4 x5 x6 x7 x8 x9 y0 y1 y2 y3 y4 y5 y6 y7 y8 y9
      have hltz := lt_of_blk hz5
      have hlty := lt_of_blk hy5
      go_wp2_with fail
      have hK2 := hB5'.trans (hK.mono hB5'.size)
      refine (same15_eq w1.heap.size w3.heap.size ⟨.nilFunc, s, false, 0, n, .nilFunc, [], [], [], A⟩ p p' q q' n1 n1' n2 n2' [] [] w5 (hv.keep hK2) (hd.keep hK2) (hv2.keep hK) (hd2.keep hK)).mono ?_
      rintro e w6 ⟨rfl, hb6⟩
      have z4 := cell_below x4 hb6
      have hB8 := hB7.trans (hb6.mono hs7)
      go_wp2_with fail
      go_ret
      exact ⟨rfl, hB8⟩

theorem blanksLaw_any (a : Int) (ha : (Lit.int .u8 a).wf = true) (n : Int) (hn : (Lit.int .u16 n).wf = true) (b : Int) (hb : (Lit.int .u8 b).wf = true) (w : World) (hk : Kn w) :
    Calls Tryd.prog 5 #[.int .u8 a, .int .u16 n, .int .u8 b] w fun e w' => e = .returned (.bool true) ∧ Below w.heap.size w w' := by
  obtain ⟨a0, a1⟩ := fit8 ha
  obtain ⟨n0, n1⟩ := fit16 hn
  obtain ⟨b0, b1⟩ := fit8 hb
  obtain ⟨n', rfl⟩ := nat_of n0
  obtain ⟨i, hi, hm⟩ := mod_nat a0 10 (by decide)
  obtain ⟨j, hj, hm'⟩ := mod_nat b0 6 (by decide)
  exact blanksLaw_in a i hi hm a0 a1 n' (by omega) b j hj hm' b0 b1 w hk
end Go.Proofs.YthajagmccaaanaaDoor
