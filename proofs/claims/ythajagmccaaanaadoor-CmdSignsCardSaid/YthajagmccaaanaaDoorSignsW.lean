/- emendatorlaw15.CmdSigns: the walk. -/
import Derived.Test.YthajagmccaaanaaDoorDigits
namespace Go.Proofs.YthajagmccaaanaaDoor
open Go.RowKit

theorem at_p (l : Bs) (j : Nat) (h : j < l.length) (h' : j < (⟨l.toArray⟩ : ByteArray).size) : (⟨l.toArray⟩ : ByteArray)[j]'h' = l[j] := by
  show l.toArray[j]'(by simpa using h) = _
  rw [List.getElem_toArray]
theorem ba_lt {l : Bs} {j : Nat} (h : j < l.length) : j < (⟨l.toArray⟩ : ByteArray).size := by simpa [ByteArray.size] using h
theorem eqF {a b : UInt8} (h : a ≠ b) : ((a.toNat : Int) == (b.toNat : Int)) = false := by
  rw [beq_eq_false_iff_ne]
  intro c
  exact h (UInt8.toNat_inj.1 (by omega))
theorem eqT {a b : UInt8} (h : a = b) : ((a.toNat : Int) == (b.toNat : Int)) = true := by rw [h]; simp
/-- The first bytes of a text are neither a backslash nor the sign. -/
def Fine (x : UInt8) (l : Bs) (j : Nat) : Prop := ∀ k (h : k < l.length), k < j → l[k] ≠ 92 ∧ l[k] ≠ x
theorem Fine.step {x : UInt8} {l : Bs} {j : Nat} (h : Fine x l j) (hj : ∀ h : j < l.length, l[j] ≠ 92 ∧ l[j] ≠ x) : Fine x l (j + 1) := by
  intro k hk hkj
  by_cases e : k = j
  · subst e; exact hj hk
  · exact h k hk (by omega)
theorem Fine.all {x : UInt8} {l : Bs} {j : Nat} (h : Fine x l j) (hj : l.length ≤ j) : ∀ c ∈ l, c ≠ 92 ∧ c ≠ x := by
  intro c hc
  obtain ⟨k, hk, rfl⟩ := List.mem_iff_getElem.1 hc
  exact h k hk (by omega)
theorem cat_s8 (x : UInt8) (p r d : Bs) : ((⟨#[115]⟩ : ByteArray) ++ ⟨#[x]⟩ ++ ⟨p.toArray⟩ ++ ⟨#[x]⟩ ++ ⟨r.toArray⟩ ++ ⟨#[x]⟩ ++ ⟨#[103, 99]⟩ ++ ⟨d.toArray⟩) = ⟨(115 :: x :: (p ++ x :: (r ++ x :: (103 :: 99 :: d)))).toArray⟩ := by
  rw [show (⟨#[115]⟩ : ByteArray) = ⟨([115] : Bs).toArray⟩ from rfl, show (⟨#[103, 99]⟩ : ByteArray) = ⟨([103, 99] : Bs).toArray⟩ from rfl, show (⟨#[x]⟩ : ByteArray) = ⟨([x] : Bs).toArray⟩ from rfl]
  simp only [ByteArray.mk_append_mk]
  simp
theorem cat_s7 (x : UInt8) (p r : Bs) : ((⟨#[115, 117, 98, 115, 116, 105, 116, 117, 116, 101]⟩ : ByteArray) ++ ⟨#[x]⟩ ++ ⟨p.toArray⟩ ++ ⟨#[x]⟩ ++ ⟨r.toArray⟩ ++ ⟨#[x]⟩ ++ ⟨#[103]⟩) = ⟨(115 :: 117 :: 98 :: 115 :: 116 :: 105 :: 116 :: 117 :: 116 :: 101 :: x :: (p ++ x :: (r ++ x :: [103]))).toArray⟩ := by
  rw [show (⟨#[115, 117, 98, 115, 116, 105, 116, 117, 116, 101]⟩ : ByteArray) = ⟨([115, 117, 98, 115, 116, 105, 116, 117, 116, 101] : Bs).toArray⟩ from rfl, show (⟨#[103]⟩ : ByteArray) = ⟨([103] : Bs).toArray⟩ from rfl, show (⟨#[x]⟩ : ByteArray) = ⟨([x] : Bs).toArray⟩ from rfl]
  simp only [ByteArray.mk_append_mk]
  simp

set_option maxRecDepth 100000 in
set_option maxHeartbeats 4000000 in
theorem signs_lo (p r : Bs) (hp : p.length ≤ 200) (hr : r.length ≤ 200) (x : UInt8) (hx : OkSign x) (h33 : 33 ≤ x.toNat) (h47 : x.toNat ≤ 47) (e34 : ((x.toNat : Int) == 34) = false) (e38 : ((x.toNat : Int) == 38) = false) (e35 : ((x.toNat : Int) == 35) = false) (e33 : ((x.toNat : Int) == 33) = false) (n : Nat) (hn : n ≤ 65535) (w : World) (hk : Kn w) :
    Calls Tryd.prog 3 #[.string ⟨p.toArray⟩, .string ⟨r.toArray⟩, .int .u8 (x.toNat : Int), .int .u16 (n : Int)] w fun e w' => e = .returned (.bool true) ∧ Below w.heap.size w w' := by
  go_enter Tryd.func3, Tryd.ntmps3
  go_wp2_with fail
  refine (known_any w hk).mono ?_
  rintro e w1 ⟨rfl, hb⟩
  have hk1 := hk.below hb
  have hsz := hb.size
  go_wp2_with fail
  go_loopg [9] (p.length + r.length + 1) (fun gk ii wr => ∃ j : Nat, gk + j = p.length + r.length + 1 ∧ j ≤ p.length + r.length ∧ ii = .int .i64 j ∧ Fine x p j ∧ Fine x r (j - p.length) ∧ Below w.heap.size w wr)
  case atStart => exact ⟨0, rfl, Nat.zero_le _, rfl, fun k _ h => absurd h (Nat.not_lt_zero _), fun k _ h => absurd h (by omega), hb⟩
  case round =>
    obtain ⟨j, hgk, hj, rfl, hfp, hfr, hB⟩ := hrel
    have hszB := hB.size
    by_cases hlt : j < p.length + r.length
    · by_cases hjl : j < p.length
      · have hat := at_p p j hjl (ba_lt hjl)
        by_cases c1 : p[j] = 92
        · have e1 : ((((⟨p.toArray⟩ : ByteArray)[j]'(ba_lt hjl)).toNat : Int) == 92) = true := by rw [hat, c1]; rfl
          clear hat c1
          go_wp2_with fail
          go_ret
          exact ⟨rfl, hB⟩
        · have e1 : ((((⟨p.toArray⟩ : ByteArray)[j]'(ba_lt hjl)).toNat : Int) == 92) = false := by rw [hat]; exact eqF (b := 92) c1
          by_cases c2 : p[j] = x
          · have e2 : ((((⟨p.toArray⟩ : ByteArray)[j]'(ba_lt hjl)).toNat : Int) == (x.toNat : Int)) = true := by rw [hat]; exact eqT c2
            clear hat c1 c2
            go_wp2_with fail
            go_ret
            exact ⟨rfl, hB⟩
          · have e2 : ((((⟨p.toArray⟩ : ByteArray)[j]'(ba_lt hjl)).toNat : Int) == (x.toNat : Int)) = false := by rw [hat]; exact eqF c2
            by_cases c3 : p[j] = 44
            · have e3 : ((((⟨p.toArray⟩ : ByteArray)[j]'(ba_lt hjl)).toNat : Int) == 44) = true := by rw [hat, c3]; rfl
              clear hat c1 c2 c3
              go_wp2_with fail
              go_ret
              exact ⟨rfl, hB⟩
            · have e3 : ((((⟨p.toArray⟩ : ByteArray)[j]'(ba_lt hjl)).toNat : Int) == 44) = false := by rw [hat]; exact eqF (b := 44) c3
              have hst := Lib.hid (And.intro c1 c2)
              clear hat c1 c2 c3
              go_wp2_with fail
              go_roundg (gk - 1)
              case measure => omega
              case rel => exact ⟨j + 1, by omega, by omega, by go_num, hfp.step (fun _ => hst.out), (fun k h hk => absurd hk (by omega)), hB⟩
      · obtain ⟨k, rfl⟩ : ∃ k, j = p.length + k := ⟨j - p.length, by omega⟩
        rw [show p.length + k - p.length = k by omega] at hfr
        have hjl : k < r.length := by omega
        have hat := at_p r k hjl (ba_lt hjl)
        by_cases c1 : r[k] = 92
        · have e1 : ((((⟨r.toArray⟩ : ByteArray)[k]'(ba_lt hjl)).toNat : Int) == 92) = true := by rw [hat, c1]; rfl
          clear hat c1
          go_wp2_with fail
          go_ret
          exact ⟨rfl, hB⟩
        · have e1 : ((((⟨r.toArray⟩ : ByteArray)[k]'(ba_lt hjl)).toNat : Int) == 92) = false := by rw [hat]; exact eqF (b := 92) c1
          by_cases c2 : r[k] = x
          · have e2 : ((((⟨r.toArray⟩ : ByteArray)[k]'(ba_lt hjl)).toNat : Int) == (x.toNat : Int)) = true := by rw [hat]; exact eqT c2
            clear hat c1 c2
            go_wp2_with fail
            go_ret
            exact ⟨rfl, hB⟩
          · have e2 : ((((⟨r.toArray⟩ : ByteArray)[k]'(ba_lt hjl)).toNat : Int) == (x.toNat : Int)) = false := by rw [hat]; exact eqF c2
            by_cases c3 : r[k] = 44
            · have e3 : ((((⟨r.toArray⟩ : ByteArray)[k]'(ba_lt hjl)).toNat : Int) == 44) = true := by rw [hat, c3]; rfl
              clear hat c1 c2 c3
              go_wp2_with fail
              go_ret
              exact ⟨rfl, hB⟩
            · have e3 : ((((⟨r.toArray⟩ : ByteArray)[k]'(ba_lt hjl)).toNat : Int) == 44) = false := by rw [hat]; exact eqF (b := 44) c3
              have hst := Lib.hid (And.intro c1 c2)
              clear hat c1 c2 c3
              go_wp2_with fail
              go_roundg (gk - 1)
              case measure => omega
              case rel => exact ⟨p.length + k + 1, by omega, by omega, by go_num, (fun i h _ => hfp i h (by omega)), (by rw [show p.length + k + 1 - p.length = k + 1 by omega]; exact hfr.step (fun _ => hst.out)), hB⟩
    · have hpa := hfp.all (by omega)
      have hra := hfr.all (by omega)
      clear hfp hfr
      have hdl := digL_len 8 n (by omega)
      have hc1 := cat_s8 x p r (digL n)
      have hc2 := cat_s7 x p r
      have hp1 := fun v => sign_short hx hpa hra n (by omega) hp hr v
      have hp2 := fun v => sign_long hx hpa hra hp hr v
      clear hpa hra
      go_wp2_with fail
      rw [conv_one wr x _ rfl]
      simp only [Result.andThen]
      rw [Oper.upon_value]
      go_wp2_with fail
      refine name_world (Q := fun W1 => Calls _ _ _ W1 _) _ fun W1 hW1 => ?_
      have hB1 : Below w.heap.size w W1 := by rw [hW1]; exact hB.alloc hszB _
      clear hW1
      have hs1 := hB1.size
      refine (digits_any n W1 (by omega)).mono ?_
      rintro e w2 ⟨rfl, hb2⟩
      have hB2 := hB1.trans (hb2.mono hs1)
      have hs2 := hB2.size
      go_wp2_with fail
      refine (parse_ok w2 (hk.below hB2) (by simp; omega) (c := ⟨.nilFunc, [115], false, 0, n, .slice none 0 0, p, r, [103, 99], [61]⟩) hp1).mono ?_
      rintro e w3 ⟨hb3, q, m, q', m', rfl, -, -⟩
      have hB3 := hB2.trans (hb3.mono hs2)
      have hs3 := hB3.size
      simp only [List.length_nil]
      go_wp2_with fail
      refine name_world (Q := fun W1 => Calls _ _ _ W1 _) _ fun W2 hW2 => ?_
      have hz : CB w3.heap.size ⟨.slice q 0 m, [115], false, 0, n, .slice q' 0 m', p, r, [103, 99], [61]⟩ W2 := by rw [hW2]; exact blk_new _ _
      have hB4 : Below w.heap.size w W2 := by rw [hW2]; exact hB3.alloc hs3 _
      clear hW2
      have hs4 := hB4.size
      refine (parse_ok W2 (hk.below hB4) (by simp; omega) (c := ⟨.nilFunc, [115], false, 0, -1, .slice none 0 0, p, r, [103], [61]⟩) hp2).mono ?_
      rintro e w5 ⟨hb5, q2, m2, q2', m2', rfl, -, -⟩
      have hB5 := hB4.trans (hb5.mono hs4)
      have hs5 := hB5.size
      have hz5 : CB w3.heap.size ⟨.slice q 0 m, [115], false, 0, n, .slice q' 0 m', p, r, [103, 99], [61]⟩ w5 := (hb5.block _ (lt_of_blk hz)).trans hz
      obtain ⟨x0, x1, x2, x3, x4, x5, x6, x7, x8, x9⟩ := ten_cells hz5
      simp only [] at x0 x1 x2 x3 x4 x5 x6 x7 x8 x9
      have hltz := lt_of_blk hz5
      simp only [List.length_nil]
      go_wp2_with fail
      go_ret
      exact ⟨rfl, hB5.alloc hs5 _⟩

set_option maxRecDepth 100000 in
set_option maxHeartbeats 4000000 in
theorem signs_hi (p r : Bs) (hp : p.length ≤ 200) (hr : r.length ≤ 200) (x : UInt8) (hx : OkSign x) (h58 : 58 ≤ x.toNat) (h64 : x.toNat ≤ 64) (hd47 : decide ((x.toNat : Int) ≤ 47) = false) (e34 : ((x.toNat : Int) == 34) = false) (e38 : ((x.toNat : Int) == 38) = false) (e35 : ((x.toNat : Int) == 35) = false) (e33 : ((x.toNat : Int) == 33) = false) (n : Nat) (hn : n ≤ 65535) (w : World) (hk : Kn w) :
    Calls Tryd.prog 3 #[.string ⟨p.toArray⟩, .string ⟨r.toArray⟩, .int .u8 (x.toNat : Int), .int .u16 (n : Int)] w fun e w' => e = .returned (.bool true) ∧ Below w.heap.size w w' := by
  go_enter Tryd.func3, Tryd.ntmps3
  go_wp2_with fail
  refine (known_any w hk).mono ?_
  rintro e w1 ⟨rfl, hb⟩
  have hk1 := hk.below hb
  have hsz := hb.size
  go_wp2_with fail
  go_loopg [9] (p.length + r.length + 1) (fun gk ii wr => ∃ j : Nat, gk + j = p.length + r.length + 1 ∧ j ≤ p.length + r.length ∧ ii = .int .i64 j ∧ Fine x p j ∧ Fine x r (j - p.length) ∧ Below w.heap.size w wr)
  case atStart => exact ⟨0, rfl, Nat.zero_le _, rfl, fun k _ h => absurd h (Nat.not_lt_zero _), fun k _ h => absurd h (by omega), hb⟩
  case round =>
    obtain ⟨j, hgk, hj, rfl, hfp, hfr, hB⟩ := hrel
    have hszB := hB.size
    by_cases hlt : j < p.length + r.length
    · by_cases hjl : j < p.length
      · have hat := at_p p j hjl (ba_lt hjl)
        by_cases c1 : p[j] = 92
        · have e1 : ((((⟨p.toArray⟩ : ByteArray)[j]'(ba_lt hjl)).toNat : Int) == 92) = true := by rw [hat, c1]; rfl
          clear hat c1
          go_wp2_with fail
          go_ret
          exact ⟨rfl, hB⟩
        · have e1 : ((((⟨p.toArray⟩ : ByteArray)[j]'(ba_lt hjl)).toNat : Int) == 92) = false := by rw [hat]; exact eqF (b := 92) c1
          by_cases c2 : p[j] = x
          · have e2 : ((((⟨p.toArray⟩ : ByteArray)[j]'(ba_lt hjl)).toNat : Int) == (x.toNat : Int)) = true := by rw [hat]; exact eqT c2
            clear hat c1 c2
            go_wp2_with fail
            go_ret
            exact ⟨rfl, hB⟩
          · have e2 : ((((⟨p.toArray⟩ : ByteArray)[j]'(ba_lt hjl)).toNat : Int) == (x.toNat : Int)) = false := by rw [hat]; exact eqF c2
            by_cases c3 : p[j] = 44
            · have e3 : ((((⟨p.toArray⟩ : ByteArray)[j]'(ba_lt hjl)).toNat : Int) == 44) = true := by rw [hat, c3]; rfl
              clear hat c1 c2 c3
              go_wp2_with fail
              go_ret
              exact ⟨rfl, hB⟩
            · have e3 : ((((⟨p.toArray⟩ : ByteArray)[j]'(ba_lt hjl)).toNat : Int) == 44) = false := by rw [hat]; exact eqF (b := 44) c3
              have hst := Lib.hid (And.intro c1 c2)
              clear hat c1 c2 c3
              go_wp2_with fail
              go_roundg (gk - 1)
              case measure => omega
              case rel => exact ⟨j + 1, by omega, by omega, by go_num, hfp.step (fun _ => hst.out), (fun k h hk => absurd hk (by omega)), hB⟩
      · obtain ⟨k, rfl⟩ : ∃ k, j = p.length + k := ⟨j - p.length, by omega⟩
        rw [show p.length + k - p.length = k by omega] at hfr
        have hjl : k < r.length := by omega
        have hat := at_p r k hjl (ba_lt hjl)
        by_cases c1 : r[k] = 92
        · have e1 : ((((⟨r.toArray⟩ : ByteArray)[k]'(ba_lt hjl)).toNat : Int) == 92) = true := by rw [hat, c1]; rfl
          clear hat c1
          go_wp2_with fail
          go_ret
          exact ⟨rfl, hB⟩
        · have e1 : ((((⟨r.toArray⟩ : ByteArray)[k]'(ba_lt hjl)).toNat : Int) == 92) = false := by rw [hat]; exact eqF (b := 92) c1
          by_cases c2 : r[k] = x
          · have e2 : ((((⟨r.toArray⟩ : ByteArray)[k]'(ba_lt hjl)).toNat : Int) == (x.toNat : Int)) = true := by rw [hat]; exact eqT c2
            clear hat c1 c2
            go_wp2_with fail
            go_ret
            exact ⟨rfl, hB⟩
          · have e2 : ((((⟨r.toArray⟩ : ByteArray)[k]'(ba_lt hjl)).toNat : Int) == (x.toNat : Int)) = false := by rw [hat]; exact eqF c2
            by_cases c3 : r[k] = 44
            · have e3 : ((((⟨r.toArray⟩ : ByteArray)[k]'(ba_lt hjl)).toNat : Int) == 44) = true := by rw [hat, c3]; rfl
              clear hat c1 c2 c3
              go_wp2_with fail
              go_ret
              exact ⟨rfl, hB⟩
            · have e3 : ((((⟨r.toArray⟩ : ByteArray)[k]'(ba_lt hjl)).toNat : Int) == 44) = false := by rw [hat]; exact eqF (b := 44) c3
              have hst := Lib.hid (And.intro c1 c2)
              clear hat c1 c2 c3
              go_wp2_with fail
              go_roundg (gk - 1)
              case measure => omega
              case rel => exact ⟨p.length + k + 1, by omega, by omega, by go_num, (fun i h _ => hfp i h (by omega)), (by rw [show p.length + k + 1 - p.length = k + 1 by omega]; exact hfr.step (fun _ => hst.out)), hB⟩
    · have hpa := hfp.all (by omega)
      have hra := hfr.all (by omega)
      clear hfp hfr
      have hdl := digL_len 8 n (by omega)
      have hc1 := cat_s8 x p r (digL n)
      have hc2 := cat_s7 x p r
      have hp1 := fun v => sign_short hx hpa hra n (by omega) hp hr v
      have hp2 := fun v => sign_long hx hpa hra hp hr v
      clear hpa hra
      go_wp2_with fail
      rw [conv_one wr x _ rfl]
      simp only [Result.andThen]
      rw [Oper.upon_value]
      go_wp2_with fail
      refine name_world (Q := fun W1 => Calls _ _ _ W1 _) _ fun W1 hW1 => ?_
      have hB1 : Below w.heap.size w W1 := by rw [hW1]; exact hB.alloc hszB _
      clear hW1
      have hs1 := hB1.size
      refine (digits_any n W1 (by omega)).mono ?_
      rintro e w2 ⟨rfl, hb2⟩
      have hB2 := hB1.trans (hb2.mono hs1)
      have hs2 := hB2.size
      go_wp2_with fail
      refine (parse_ok w2 (hk.below hB2) (by simp; omega) (c := ⟨.nilFunc, [115], false, 0, n, .slice none 0 0, p, r, [103, 99], [61]⟩) hp1).mono ?_
      rintro e w3 ⟨hb3, q, m, q', m', rfl, -, -⟩
      have hB3 := hB2.trans (hb3.mono hs2)
      have hs3 := hB3.size
      simp only [List.length_nil]
      go_wp2_with fail
      refine name_world (Q := fun W1 => Calls _ _ _ W1 _) _ fun W2 hW2 => ?_
      have hz : CB w3.heap.size ⟨.slice q 0 m, [115], false, 0, n, .slice q' 0 m', p, r, [103, 99], [61]⟩ W2 := by rw [hW2]; exact blk_new _ _
      have hB4 : Below w.heap.size w W2 := by rw [hW2]; exact hB3.alloc hs3 _
      clear hW2
      have hs4 := hB4.size
      refine (parse_ok W2 (hk.below hB4) (by simp; omega) (c := ⟨.nilFunc, [115], false, 0, -1, .slice none 0 0, p, r, [103], [61]⟩) hp2).mono ?_
      rintro e w5 ⟨hb5, q2, m2, q2', m2', rfl, -, -⟩
      have hB5 := hB4.trans (hb5.mono hs4)
      have hs5 := hB5.size
      have hz5 : CB w3.heap.size ⟨.slice q 0 m, [115], false, 0, n, .slice q' 0 m', p, r, [103, 99], [61]⟩ w5 := (hb5.block _ (lt_of_blk hz)).trans hz
      obtain ⟨x0, x1, x2, x3, x4, x5, x6, x7, x8, x9⟩ := ten_cells hz5
      simp only [] at x0 x1 x2 x3 x4 x5 x6 x7 x8 x9
      have hltz := lt_of_blk hz5
      simp only [List.length_nil]
      go_wp2_with fail
      go_ret
      exact ⟨rfl, hB5.alloc hs5 _⟩

set_option maxRecDepth 100000 in
set_option maxHeartbeats 4000000 in
theorem signs_pl (p r : Bs) (x : UInt8) (hp : 200 < p.length) (n : Nat) (w : World) (hk : Kn w) :
    Calls Tryd.prog 3 #[.string ⟨p.toArray⟩, .string ⟨r.toArray⟩, .int .u8 (x.toNat : Int), .int .u16 (n : Int)] w fun e w' => e = .returned (.bool true) ∧ Below w.heap.size w w' := by
  go_enter Tryd.func3, Tryd.ntmps3
  go_wp2_with fail
  refine (known_any w hk).mono ?_
  rintro e w1 ⟨rfl, hb⟩
  go_wp2_with fail
  go_ret
  exact ⟨rfl, hb⟩

set_option maxRecDepth 100000 in
set_option maxHeartbeats 4000000 in
theorem signs_rl (p r : Bs) (x : UInt8) (hp : p.length ≤ 200) (hr : 200 < r.length) (n : Nat) (w : World) (hk : Kn w) :
    Calls Tryd.prog 3 #[.string ⟨p.toArray⟩, .string ⟨r.toArray⟩, .int .u8 (x.toNat : Int), .int .u16 (n : Int)] w fun e w' => e = .returned (.bool true) ∧ Below w.heap.size w w' := by
  go_enter Tryd.func3, Tryd.ntmps3
  go_wp2_with fail
  refine (known_any w hk).mono ?_
  rintro e w1 ⟨rfl, hb⟩
  go_wp2_with fail
  go_ret
  exact ⟨rfl, hb⟩

set_option maxRecDepth 100000 in
set_option maxHeartbeats 4000000 in
theorem signs_b1 (p r : Bs) (x : UInt8) (hp : p.length ≤ 200) (hr : r.length ≤ 200) (h33 : x.toNat < 33) (n : Nat) (w : World) (hk : Kn w) :
    Calls Tryd.prog 3 #[.string ⟨p.toArray⟩, .string ⟨r.toArray⟩, .int .u8 (x.toNat : Int), .int .u16 (n : Int)] w fun e w' => e = .returned (.bool true) ∧ Below w.heap.size w w' := by
  go_enter Tryd.func3, Tryd.ntmps3
  go_wp2_with fail
  refine (known_any w hk).mono ?_
  rintro e w1 ⟨rfl, hb⟩
  go_wp2_with fail
  go_ret
  exact ⟨rfl, hb⟩

set_option maxRecDepth 100000 in
set_option maxHeartbeats 4000000 in
theorem signs_b2 (p r : Bs) (x : UInt8) (hp : p.length ≤ 200) (hr : r.length ≤ 200) (h48 : 48 ≤ x.toNat) (h57 : x.toNat ≤ 57) (hd47 : decide ((x.toNat : Int) ≤ 47) = false) (n : Nat) (w : World) (hk : Kn w) :
    Calls Tryd.prog 3 #[.string ⟨p.toArray⟩, .string ⟨r.toArray⟩, .int .u8 (x.toNat : Int), .int .u16 (n : Int)] w fun e w' => e = .returned (.bool true) ∧ Below w.heap.size w w' := by
  go_enter Tryd.func3, Tryd.ntmps3
  go_wp2_with fail
  refine (known_any w hk).mono ?_
  rintro e w1 ⟨rfl, hb⟩
  go_wp2_with fail
  go_ret
  exact ⟨rfl, hb⟩

set_option maxRecDepth 100000 in
set_option maxHeartbeats 4000000 in
theorem signs_b3 (p r : Bs) (x : UInt8) (hp : p.length ≤ 200) (hr : r.length ≤ 200) (h65 : 65 ≤ x.toNat) (hd47 : decide ((x.toNat : Int) ≤ 47) = false) (hd64 : decide ((x.toNat : Int) ≤ 64) = false) (n : Nat) (w : World) (hk : Kn w) :
    Calls Tryd.prog 3 #[.string ⟨p.toArray⟩, .string ⟨r.toArray⟩, .int .u8 (x.toNat : Int), .int .u16 (n : Int)] w fun e w' => e = .returned (.bool true) ∧ Below w.heap.size w w' := by
  go_enter Tryd.func3, Tryd.ntmps3
  go_wp2_with fail
  refine (known_any w hk).mono ?_
  rintro e w1 ⟨rfl, hb⟩
  go_wp2_with fail
  go_ret
  exact ⟨rfl, hb⟩

set_option maxRecDepth 100000 in
set_option maxHeartbeats 4000000 in
theorem signs_q34 (p r : Bs) (x : UInt8) (hp : p.length ≤ 200) (hr : r.length ≤ 200) (h33 : 33 ≤ x.toNat) (h47 : x.toNat ≤ 47) (e34 : ((x.toNat : Int) == 34) = true) (e38 : ((x.toNat : Int) == 38) = false) (e35 : ((x.toNat : Int) == 35) = false) (e33 : ((x.toNat : Int) == 33) = false) (n : Nat) (w : World) (hk : Kn w) :
    Calls Tryd.prog 3 #[.string ⟨p.toArray⟩, .string ⟨r.toArray⟩, .int .u8 (x.toNat : Int), .int .u16 (n : Int)] w fun e w' => e = .returned (.bool true) ∧ Below w.heap.size w w' := by
  go_enter Tryd.func3, Tryd.ntmps3
  go_wp2_with fail
  refine (known_any w hk).mono ?_
  rintro e w1 ⟨rfl, hb⟩
  go_wp2_with fail
  go_ret
  exact ⟨rfl, hb⟩

set_option maxRecDepth 100000 in
set_option maxHeartbeats 4000000 in
theorem signs_q38 (p r : Bs) (x : UInt8) (hp : p.length ≤ 200) (hr : r.length ≤ 200) (h33 : 33 ≤ x.toNat) (h47 : x.toNat ≤ 47) (e34 : ((x.toNat : Int) == 34) = false) (e38 : ((x.toNat : Int) == 38) = true) (e35 : ((x.toNat : Int) == 35) = false) (e33 : ((x.toNat : Int) == 33) = false) (n : Nat) (w : World) (hk : Kn w) :
    Calls Tryd.prog 3 #[.string ⟨p.toArray⟩, .string ⟨r.toArray⟩, .int .u8 (x.toNat : Int), .int .u16 (n : Int)] w fun e w' => e = .returned (.bool true) ∧ Below w.heap.size w w' := by
  go_enter Tryd.func3, Tryd.ntmps3
  go_wp2_with fail
  refine (known_any w hk).mono ?_
  rintro e w1 ⟨rfl, hb⟩
  go_wp2_with fail
  go_ret
  exact ⟨rfl, hb⟩

set_option maxRecDepth 100000 in
set_option maxHeartbeats 4000000 in
theorem signs_q35 (p r : Bs) (x : UInt8) (hp : p.length ≤ 200) (hr : r.length ≤ 200) (h33 : 33 ≤ x.toNat) (h47 : x.toNat ≤ 47) (e34 : ((x.toNat : Int) == 34) = false) (e38 : ((x.toNat : Int) == 38) = false) (e35 : ((x.toNat : Int) == 35) = true) (e33 : ((x.toNat : Int) == 33) = false) (n : Nat) (w : World) (hk : Kn w) :
    Calls Tryd.prog 3 #[.string ⟨p.toArray⟩, .string ⟨r.toArray⟩, .int .u8 (x.toNat : Int), .int .u16 (n : Int)] w fun e w' => e = .returned (.bool true) ∧ Below w.heap.size w w' := by
  go_enter Tryd.func3, Tryd.ntmps3
  go_wp2_with fail
  refine (known_any w hk).mono ?_
  rintro e w1 ⟨rfl, hb⟩
  go_wp2_with fail
  go_ret
  exact ⟨rfl, hb⟩

set_option maxRecDepth 100000 in
set_option maxHeartbeats 4000000 in
theorem signs_q33 (p r : Bs) (x : UInt8) (hp : p.length ≤ 200) (hr : r.length ≤ 200) (h33 : 33 ≤ x.toNat) (h47 : x.toNat ≤ 47) (e34 : ((x.toNat : Int) == 34) = false) (e38 : ((x.toNat : Int) == 38) = false) (e35 : ((x.toNat : Int) == 35) = false) (e33 : ((x.toNat : Int) == 33) = true) (n : Nat) (w : World) (hk : Kn w) :
    Calls Tryd.prog 3 #[.string ⟨p.toArray⟩, .string ⟨r.toArray⟩, .int .u8 (x.toNat : Int), .int .u16 (n : Int)] w fun e w' => e = .returned (.bool true) ∧ Below w.heap.size w w' := by
  go_enter Tryd.func3, Tryd.ntmps3
  go_wp2_with fail
  refine (known_any w hk).mono ?_
  rintro e w1 ⟨rfl, hb⟩
  go_wp2_with fail
  go_ret
  exact ⟨rfl, hb⟩

theorem signsLaw_in (p r : Bs) (x : UInt8) (n : Nat) (hn : n ≤ 65535) (w : World) (hk : Kn w) :
    Calls Tryd.prog 3 #[.string ⟨p.toArray⟩, .string ⟨r.toArray⟩, .int .u8 (x.toNat : Int), .int .u16 (n : Int)] w fun e w' => e = .returned (.bool true) ∧ Below w.heap.size w w' := by
  by_cases hp : 200 < p.length
  · exact signs_pl p r x hp n w hk
  have hp : p.length ≤ 200 := by omega
  by_cases hr : 200 < r.length
  · exact signs_rl p r x hp hr n w hk
  have hr : r.length ≤ 200 := by omega
  have et : ∀ k : Nat, x.toNat = k → ((x.toNat : Int) == (k : Int)) = true := fun k h => by rw [h]; simp
  have ef : ∀ k : Nat, x.toNat ≠ k → ((x.toNat : Int) == (k : Int)) = false := fun k h => by rw [beq_eq_false_iff_ne]; omega
  have ed : ∀ k : Nat, k < x.toNat → decide ((x.toNat : Int) ≤ (k : Int)) = false := fun k h => by rw [decide_eq_false_iff_not]; omega
  by_cases h1 : x.toNat < 33
  · exact signs_b1 p r x hp hr h1 n w hk
  by_cases h2 : 48 ≤ x.toNat ∧ x.toNat ≤ 57
  · exact signs_b2 p r x hp hr h2.1 h2.2 (ed 47 (by omega)) n w hk
  by_cases h3 : 65 ≤ x.toNat
  · exact signs_b3 p r x hp hr h3 (ed 47 (by omega)) (ed 64 (by omega)) n w hk
  by_cases h47 : x.toNat ≤ 47
  · by_cases hv : x.toNat = 34
    · exact signs_q34 p r x hp hr (by omega) h47 (et 34 hv) (ef 38 (by omega)) (ef 35 (by omega)) (ef 33 (by omega)) n w hk
    by_cases hv : x.toNat = 38
    · exact signs_q38 p r x hp hr (by omega) h47 (ef 34 (by omega)) (et 38 hv) (ef 35 (by omega)) (ef 33 (by omega)) n w hk
    by_cases hv : x.toNat = 35
    · exact signs_q35 p r x hp hr (by omega) h47 (ef 34 (by omega)) (ef 38 (by omega)) (et 35 hv) (ef 33 (by omega)) n w hk
    by_cases hv : x.toNat = 33
    · exact signs_q33 p r x hp hr (by omega) h47 (ef 34 (by omega)) (ef 38 (by omega)) (ef 35 (by omega)) (et 33 hv) n w hk
    exact signs_lo p r hp hr x ⟨by omega, by omega, by omega, by omega, by omega, by omega, by omega⟩ (by omega) h47 (ef 34 (by omega)) (ef 38 (by omega)) (ef 35 (by omega)) (ef 33 (by omega)) n hn w hk
  · exact signs_hi p r hp hr x ⟨by omega, by omega, by omega, by omega, by omega, by omega, by omega⟩ (by omega) (by omega) (ed 47 (by omega)) (ef 34 (by omega)) (ef 38 (by omega)) (ef 35 (by omega)) (ef 33 (by omega)) n hn w hk
theorem signsLaw_any (p r : Bs) (a : Int) (ha : (Lit.int .u8 a).wf = true) (n : Int) (hn : (Lit.int .u16 n).wf = true) (w : World) (hk : Kn w) :
    Calls Tryd.prog 3 #[.string ⟨p.toArray⟩, .string ⟨r.toArray⟩, .int .u8 a, .int .u16 n] w fun e w' => e = .returned (.bool true) ∧ Below w.heap.size w w' := by
  obtain ⟨a0, a1⟩ := fit8 ha
  obtain ⟨n0, n1⟩ := fit16 hn
  obtain ⟨n', rfl⟩ := nat_of n0
  obtain ⟨x, rfl⟩ : ∃ x : UInt8, a = (x.toNat : Int) := ⟨UInt8.ofNat a.toNat, by rw [UInt8.toNat_ofNat_of_lt' (by show _ < 256; omega)]; omega⟩
  exact signsLaw_in p r x n' (by omega) w hk
end Go.Proofs.YthajagmccaaanaaDoor
