/- emendatorlaw15.CmdNames: the walk. -/
import Derived.Test.YthajagmccaaanaaDoorSame
import Derived.Test.YthajagmccaaanaaDoorFit
namespace Go.Proofs.YthajagmccaaanaaDoor
open Go.RowKit

theorem sixteen {w : World} {g : Nat} {T : TypeId} {x0 x1 x2 x3 x4 x5 x6 x7 x8 x9 x10 x11 x12 x13 x14 x15 : Value} (h : w.heap[g]? = some (.cells #[x0, x1, x2, x3, x4, x5, x6, x7, x8, x9, x10, x11, x12, x13, x14, x15] T (0, 0))) (j : Nat) :
    w.cell? ⟨g, j, none⟩ = #[x0, x1, x2, x3, x4, x5, x6, x7, x8, x9, x10, x11, x12, x13, x14, x15][j]? := by rw [Lib.cell_of_heap h]
def rowN : Array Value := #[.string ⟨#[100]⟩, .string ⟨#[109]⟩, .string ⟨#[116]⟩, .string ⟨#[106]⟩, .string ⟨#[121]⟩, .string ⟨#[112, 117]⟩, .string ⟨#[107]⟩, .string ⟨#[115]⟩, .string ⟨#[103]⟩, .string ⟨#[118]⟩, .string ⟨#[110, 111, 114, 109]⟩, .string ⟨#[117]⟩, .string ⟨#[114, 101, 100]⟩, .string ⟨#[101, 97, 114, 108, 105, 101, 114]⟩, .string ⟨#[108, 97, 116, 101, 114]⟩, .string ⟨#[112]⟩]
theorem refNames_any (w : World) : Calls Tryd.prog 15 #[] w fun e w' => e = .returned (.slice (some ⟨w.heap.size, 0, none⟩) 16 16) ∧ w' = w.alloc (.cells rowN 9 (0, 0)) := by
  go_enter Tryd.func15, Tryd.ntmps15
  go_wp2_with fail
  go_ret
  exact ⟨rfl, rfl⟩

theorem parse_n0 (v : Value) : parseR v [100] = .ok (⟨v, [100], false, 0, -1, .slice none 0 0, [], [], [], []⟩, [], []) := by rfl
set_option maxRecDepth 100000 in
set_option maxHeartbeats 4000000 in
theorem names_0 (a : Int) (h0 : 0 ≤ a) (h1 : a ≤ 255) (ha : a.tmod 16 = 0) (w : World) (hk : Kn w) : Calls Tryd.prog 6 #[.int .u8 a] w fun e w' => e = .returned (.bool true) ∧ Below w.heap.size w w' := by
  go_enter Tryd.func6, Tryd.ntmps6
  go_wp2_with fail
  refine (names_any w hk).mono ?_
  rintro e w1 ⟨rfl, hw1⟩
  have hr1 : w1.heap[w.heap.size]? = some (.cells rowN 9 (0, 0)) := by rw [hw1]; exact blk_new _ _
  have hB1 : Below w.heap.size w w1 := by rw [hw1]; exact (Below.refl _ w).alloc (Nat.le_refl _) _
  clear hw1
  have hs1 := hB1.size
  go_wp2_with fail
  refine (refNames_any w1).mono ?_
  rintro e w2 ⟨rfl, hw2⟩
  have hr2 : w2.heap[w1.heap.size]? = some (.cells rowN 9 (0, 0)) := by rw [hw2]; exact blk_new _ _
  have hB2 : Below w1.heap.size w1 w2 := by rw [hw2]; exact (Below.refl _ w1).alloc (Nat.le_refl _) _
  clear hw2
  have hs2 := hB2.size
  go_wp2_with fail
  refine (known_any w2 ((hk.below hB1).below hB2)).mono ?_
  rintro e w3 ⟨rfl, hB3⟩
  have hs3 := hB3.size
  have r1 := (hB3.block _ (by have := lt_of_blk hr1; omega)).trans ((hB2.block _ (lt_of_blk hr1)).trans hr1)
  have r2 := (hB3.block _ (lt_of_blk hr2)).trans hr2
  have c1 : w3.cell? ⟨w.heap.size, 0, none⟩ = some (.string ⟨#[100]⟩) := by rw [Lib.cell_of_heap r1]; rfl
  have c2 : w3.cell? ⟨w1.heap.size, 0, none⟩ = some (.string ⟨#[100]⟩) := by rw [Lib.cell_of_heap r2]; rfl
  have hcat := (ByteArray.mk_append_mk [100] []).trans (show _ = (⟨([100] : Bs).toArray⟩ : ByteArray) from rfl)
  have hk3 := ((hk.below hB1).below hB2).below hB3
  have hq := parse_ok (c := ⟨.nilFunc, [100], false, 0, -1, .slice none 0 0, [], [], [], []⟩) w3 hk3 (by decide) parse_n0
  go_wp2_with fail
  try rw [hcat]
  refine hq.mono ?_
  rintro e w4 ⟨hb4, p, n, p', n', rfl, -, -⟩
  simp only [List.length_nil]
  have d2 := cell_below c2 hb4
  have hs4 := hb4.size
  have hlt2 : w1.heap.size < w4.heap.size := by have := lt_of_blk r2; omega
  have hB : Below w.heap.size w w4 := hB1.trans ((hB2.mono hs1).trans ((hB3.mono (by omega)).trans (hb4.mono (by omega))))
  have hszB := hB.size
  clear c1 c2
  go_wp2_with fail
  go_ret
  exact ⟨rfl, hB.alloc hszB _⟩

theorem parse_n1 (v : Value) : parseR v [109, 48] = .ok (⟨v, [109], false, 0, -1, .slice none 0 0, [], [], [], []⟩, [], [⟨1, 0, 0, [], 0, false⟩]) := by rfl
set_option maxRecDepth 100000 in
set_option maxHeartbeats 4000000 in
theorem names_1 (a : Int) (h0 : 0 ≤ a) (h1 : a ≤ 255) (ha : a.tmod 16 = 1) (w : World) (hk : Kn w) : Calls Tryd.prog 6 #[.int .u8 a] w fun e w' => e = .returned (.bool true) ∧ Below w.heap.size w w' := by
  go_enter Tryd.func6, Tryd.ntmps6
  go_wp2_with fail
  refine (names_any w hk).mono ?_
  rintro e w1 ⟨rfl, hw1⟩
  have hr1 : w1.heap[w.heap.size]? = some (.cells rowN 9 (0, 0)) := by rw [hw1]; exact blk_new _ _
  have hB1 : Below w.heap.size w w1 := by rw [hw1]; exact (Below.refl _ w).alloc (Nat.le_refl _) _
  clear hw1
  have hs1 := hB1.size
  go_wp2_with fail
  refine (refNames_any w1).mono ?_
  rintro e w2 ⟨rfl, hw2⟩
  have hr2 : w2.heap[w1.heap.size]? = some (.cells rowN 9 (0, 0)) := by rw [hw2]; exact blk_new _ _
  have hB2 : Below w1.heap.size w1 w2 := by rw [hw2]; exact (Below.refl _ w1).alloc (Nat.le_refl _) _
  clear hw2
  have hs2 := hB2.size
  go_wp2_with fail
  refine (known_any w2 ((hk.below hB1).below hB2)).mono ?_
  rintro e w3 ⟨rfl, hB3⟩
  have hs3 := hB3.size
  have r1 := (hB3.block _ (by have := lt_of_blk hr1; omega)).trans ((hB2.block _ (lt_of_blk hr1)).trans hr1)
  have r2 := (hB3.block _ (lt_of_blk hr2)).trans hr2
  have c1 : w3.cell? ⟨w.heap.size, 1, none⟩ = some (.string ⟨#[109]⟩) := by rw [Lib.cell_of_heap r1]; rfl
  have c2 : w3.cell? ⟨w1.heap.size, 1, none⟩ = some (.string ⟨#[109]⟩) := by rw [Lib.cell_of_heap r2]; rfl
  have hcat := (ByteArray.mk_append_mk [109] [48]).trans (show _ = (⟨([109, 48] : Bs).toArray⟩ : ByteArray) from rfl)
  have hk3 := ((hk.below hB1).below hB2).below hB3
  have hq := parse_ok (c := ⟨.nilFunc, [109], false, 0, -1, .slice none 0 0, [], [], [], []⟩) w3 hk3 (by decide) parse_n1
  go_wp2_with fail
  try rw [hcat]
  refine hq.mono ?_
  rintro e w4 ⟨hb4, p, n, p', n', rfl, -, -⟩
  simp only [List.length_cons, List.length_nil]
  have d2 := cell_below c2 hb4
  have hs4 := hb4.size
  have hlt2 : w1.heap.size < w4.heap.size := by have := lt_of_blk r2; omega
  have hB : Below w.heap.size w w4 := hB1.trans ((hB2.mono hs1).trans ((hB3.mono (by omega)).trans (hb4.mono (by omega))))
  have hszB := hB.size
  clear c1 c2
  go_wp2_with fail
  go_ret
  exact ⟨rfl, hB.alloc hszB _⟩

theorem parse_n2 (v : Value) : parseR v [116, 48] = .ok (⟨v, [116], false, 0, -1, .slice none 0 0, [], [], [], []⟩, [], [⟨1, 0, 0, [], 0, false⟩]) := by rfl
set_option maxRecDepth 100000 in
set_option maxHeartbeats 4000000 in
theorem names_2 (a : Int) (h0 : 0 ≤ a) (h1 : a ≤ 255) (ha : a.tmod 16 = 2) (w : World) (hk : Kn w) : Calls Tryd.prog 6 #[.int .u8 a] w fun e w' => e = .returned (.bool true) ∧ Below w.heap.size w w' := by
  go_enter Tryd.func6, Tryd.ntmps6
  go_wp2_with fail
  refine (names_any w hk).mono ?_
  rintro e w1 ⟨rfl, hw1⟩
  have hr1 : w1.heap[w.heap.size]? = some (.cells rowN 9 (0, 0)) := by rw [hw1]; exact blk_new _ _
  have hB1 : Below w.heap.size w w1 := by rw [hw1]; exact (Below.refl _ w).alloc (Nat.le_refl _) _
  clear hw1
  have hs1 := hB1.size
  go_wp2_with fail
  refine (refNames_any w1).mono ?_
  rintro e w2 ⟨rfl, hw2⟩
  have hr2 : w2.heap[w1.heap.size]? = some (.cells rowN 9 (0, 0)) := by rw [hw2]; exact blk_new _ _
  have hB2 : Below w1.heap.size w1 w2 := by rw [hw2]; exact (Below.refl _ w1).alloc (Nat.le_refl _) _
  clear hw2
  have hs2 := hB2.size
  go_wp2_with fail
  refine (known_any w2 ((hk.below hB1).below hB2)).mono ?_
  rintro e w3 ⟨rfl, hB3⟩
  have hs3 := hB3.size
  have r1 := (hB3.block _ (by have := lt_of_blk hr1; omega)).trans ((hB2.block _ (lt_of_blk hr1)).trans hr1)
  have r2 := (hB3.block _ (lt_of_blk hr2)).trans hr2
  have c1 : w3.cell? ⟨w.heap.size, 2, none⟩ = some (.string ⟨#[116]⟩) := by rw [Lib.cell_of_heap r1]; rfl
  have c2 : w3.cell? ⟨w1.heap.size, 2, none⟩ = some (.string ⟨#[116]⟩) := by rw [Lib.cell_of_heap r2]; rfl
  have hcat := (ByteArray.mk_append_mk [116] [48]).trans (show _ = (⟨([116, 48] : Bs).toArray⟩ : ByteArray) from rfl)
  have hk3 := ((hk.below hB1).below hB2).below hB3
  have hq := parse_ok (c := ⟨.nilFunc, [116], false, 0, -1, .slice none 0 0, [], [], [], []⟩) w3 hk3 (by decide) parse_n2
  go_wp2_with fail
  try rw [hcat]
  refine hq.mono ?_
  rintro e w4 ⟨hb4, p, n, p', n', rfl, -, -⟩
  simp only [List.length_cons, List.length_nil]
  have d2 := cell_below c2 hb4
  have hs4 := hb4.size
  have hlt2 : w1.heap.size < w4.heap.size := by have := lt_of_blk r2; omega
  have hB : Below w.heap.size w w4 := hB1.trans ((hB2.mono hs1).trans ((hB3.mono (by omega)).trans (hb4.mono (by omega))))
  have hszB := hB.size
  clear c1 c2
  go_wp2_with fail
  go_ret
  exact ⟨rfl, hB.alloc hszB _⟩

theorem parse_n3 (v : Value) : parseR v [106] = .ok (⟨v, [106], false, 0, -1, .slice none 0 0, [], [], [], []⟩, [], []) := by rfl
set_option maxRecDepth 100000 in
set_option maxHeartbeats 4000000 in
theorem names_3 (a : Int) (h0 : 0 ≤ a) (h1 : a ≤ 255) (ha : a.tmod 16 = 3) (w : World) (hk : Kn w) : Calls Tryd.prog 6 #[.int .u8 a] w fun e w' => e = .returned (.bool true) ∧ Below w.heap.size w w' := by
  go_enter Tryd.func6, Tryd.ntmps6
  go_wp2_with fail
  refine (names_any w hk).mono ?_
  rintro e w1 ⟨rfl, hw1⟩
  have hr1 : w1.heap[w.heap.size]? = some (.cells rowN 9 (0, 0)) := by rw [hw1]; exact blk_new _ _
  have hB1 : Below w.heap.size w w1 := by rw [hw1]; exact (Below.refl _ w).alloc (Nat.le_refl _) _
  clear hw1
  have hs1 := hB1.size
  go_wp2_with fail
  refine (refNames_any w1).mono ?_
  rintro e w2 ⟨rfl, hw2⟩
  have hr2 : w2.heap[w1.heap.size]? = some (.cells rowN 9 (0, 0)) := by rw [hw2]; exact blk_new _ _
  have hB2 : Below w1.heap.size w1 w2 := by rw [hw2]; exact (Below.refl _ w1).alloc (Nat.le_refl _) _
  clear hw2
  have hs2 := hB2.size
  go_wp2_with fail
  refine (known_any w2 ((hk.below hB1).below hB2)).mono ?_
  rintro e w3 ⟨rfl, hB3⟩
  have hs3 := hB3.size
  have r1 := (hB3.block _ (by have := lt_of_blk hr1; omega)).trans ((hB2.block _ (lt_of_blk hr1)).trans hr1)
  have r2 := (hB3.block _ (lt_of_blk hr2)).trans hr2
  have c1 : w3.cell? ⟨w.heap.size, 3, none⟩ = some (.string ⟨#[106]⟩) := by rw [Lib.cell_of_heap r1]; rfl
  have c2 : w3.cell? ⟨w1.heap.size, 3, none⟩ = some (.string ⟨#[106]⟩) := by rw [Lib.cell_of_heap r2]; rfl
  have hcat := (ByteArray.mk_append_mk [106] []).trans (show _ = (⟨([106] : Bs).toArray⟩ : ByteArray) from rfl)
  have hk3 := ((hk.below hB1).below hB2).below hB3
  have hq := parse_ok (c := ⟨.nilFunc, [106], false, 0, -1, .slice none 0 0, [], [], [], []⟩) w3 hk3 (by decide) parse_n3
  go_wp2_with fail
  try rw [hcat]
  refine hq.mono ?_
  rintro e w4 ⟨hb4, p, n, p', n', rfl, -, -⟩
  simp only [List.length_nil]
  have d2 := cell_below c2 hb4
  have hs4 := hb4.size
  have hlt2 : w1.heap.size < w4.heap.size := by have := lt_of_blk r2; omega
  have hB : Below w.heap.size w w4 := hB1.trans ((hB2.mono hs1).trans ((hB3.mono (by omega)).trans (hb4.mono (by omega))))
  have hszB := hB.size
  clear c1 c2
  go_wp2_with fail
  go_ret
  exact ⟨rfl, hB.alloc hszB _⟩

theorem parse_n4 (v : Value) : parseR v [121] = .ok (⟨v, [121], false, 0, -1, .slice none 0 0, [], [], [], []⟩, [], []) := by rfl
set_option maxRecDepth 100000 in
set_option maxHeartbeats 4000000 in
theorem names_4 (a : Int) (h0 : 0 ≤ a) (h1 : a ≤ 255) (ha : a.tmod 16 = 4) (w : World) (hk : Kn w) : Calls Tryd.prog 6 #[.int .u8 a] w fun e w' => e = .returned (.bool true) ∧ Below w.heap.size w w' := by
  go_enter Tryd.func6, Tryd.ntmps6
  go_wp2_with fail
  refine (names_any w hk).mono ?_
  rintro e w1 ⟨rfl, hw1⟩
  have hr1 : w1.heap[w.heap.size]? = some (.cells rowN 9 (0, 0)) := by rw [hw1]; exact blk_new _ _
  have hB1 : Below w.heap.size w w1 := by rw [hw1]; exact (Below.refl _ w).alloc (Nat.le_refl _) _
  clear hw1
  have hs1 := hB1.size
  go_wp2_with fail
  refine (refNames_any w1).mono ?_
  rintro e w2 ⟨rfl, hw2⟩
  have hr2 : w2.heap[w1.heap.size]? = some (.cells rowN 9 (0, 0)) := by rw [hw2]; exact blk_new _ _
  have hB2 : Below w1.heap.size w1 w2 := by rw [hw2]; exact (Below.refl _ w1).alloc (Nat.le_refl _) _
  clear hw2
  have hs2 := hB2.size
  go_wp2_with fail
  refine (known_any w2 ((hk.below hB1).below hB2)).mono ?_
  rintro e w3 ⟨rfl, hB3⟩
  have hs3 := hB3.size
  have r1 := (hB3.block _ (by have := lt_of_blk hr1; omega)).trans ((hB2.block _ (lt_of_blk hr1)).trans hr1)
  have r2 := (hB3.block _ (lt_of_blk hr2)).trans hr2
  have c1 : w3.cell? ⟨w.heap.size, 4, none⟩ = some (.string ⟨#[121]⟩) := by rw [Lib.cell_of_heap r1]; rfl
  have c2 : w3.cell? ⟨w1.heap.size, 4, none⟩ = some (.string ⟨#[121]⟩) := by rw [Lib.cell_of_heap r2]; rfl
  have hcat := (ByteArray.mk_append_mk [121] []).trans (show _ = (⟨([121] : Bs).toArray⟩ : ByteArray) from rfl)
  have hk3 := ((hk.below hB1).below hB2).below hB3
  have hq := parse_ok (c := ⟨.nilFunc, [121], false, 0, -1, .slice none 0 0, [], [], [], []⟩) w3 hk3 (by decide) parse_n4
  go_wp2_with fail
  try rw [hcat]
  refine hq.mono ?_
  rintro e w4 ⟨hb4, p, n, p', n', rfl, -, -⟩
  simp only [List.length_nil]
  have d2 := cell_below c2 hb4
  have hs4 := hb4.size
  have hlt2 : w1.heap.size < w4.heap.size := by have := lt_of_blk r2; omega
  have hB : Below w.heap.size w w4 := hB1.trans ((hB2.mono hs1).trans ((hB3.mono (by omega)).trans (hb4.mono (by omega))))
  have hszB := hB.size
  clear c1 c2
  go_wp2_with fail
  go_ret
  exact ⟨rfl, hB.alloc hszB _⟩

theorem parse_n5 (v : Value) : parseR v [112, 117] = .ok (⟨v, [112, 117], false, 0, -1, .slice none 0 0, [], [], [], []⟩, [], []) := by rfl
set_option maxRecDepth 100000 in
set_option maxHeartbeats 4000000 in
theorem names_5 (a : Int) (h0 : 0 ≤ a) (h1 : a ≤ 255) (ha : a.tmod 16 = 5) (w : World) (hk : Kn w) : Calls Tryd.prog 6 #[.int .u8 a] w fun e w' => e = .returned (.bool true) ∧ Below w.heap.size w w' := by
  go_enter Tryd.func6, Tryd.ntmps6
  go_wp2_with fail
  refine (names_any w hk).mono ?_
  rintro e w1 ⟨rfl, hw1⟩
  have hr1 : w1.heap[w.heap.size]? = some (.cells rowN 9 (0, 0)) := by rw [hw1]; exact blk_new _ _
  have hB1 : Below w.heap.size w w1 := by rw [hw1]; exact (Below.refl _ w).alloc (Nat.le_refl _) _
  clear hw1
  have hs1 := hB1.size
  go_wp2_with fail
  refine (refNames_any w1).mono ?_
  rintro e w2 ⟨rfl, hw2⟩
  have hr2 : w2.heap[w1.heap.size]? = some (.cells rowN 9 (0, 0)) := by rw [hw2]; exact blk_new _ _
  have hB2 : Below w1.heap.size w1 w2 := by rw [hw2]; exact (Below.refl _ w1).alloc (Nat.le_refl _) _
  clear hw2
  have hs2 := hB2.size
  go_wp2_with fail
  refine (known_any w2 ((hk.below hB1).below hB2)).mono ?_
  rintro e w3 ⟨rfl, hB3⟩
  have hs3 := hB3.size
  have r1 := (hB3.block _ (by have := lt_of_blk hr1; omega)).trans ((hB2.block _ (lt_of_blk hr1)).trans hr1)
  have r2 := (hB3.block _ (lt_of_blk hr2)).trans hr2
  have c1 : w3.cell? ⟨w.heap.size, 5, none⟩ = some (.string ⟨#[112, 117]⟩) := by rw [Lib.cell_of_heap r1]; rfl
  have c2 : w3.cell? ⟨w1.heap.size, 5, none⟩ = some (.string ⟨#[112, 117]⟩) := by rw [Lib.cell_of_heap r2]; rfl
  have hcat := (ByteArray.mk_append_mk [112, 117] []).trans (show _ = (⟨([112, 117] : Bs).toArray⟩ : ByteArray) from rfl)
  have hk3 := ((hk.below hB1).below hB2).below hB3
  have hq := parse_ok (c := ⟨.nilFunc, [112, 117], false, 0, -1, .slice none 0 0, [], [], [], []⟩) w3 hk3 (by decide) parse_n5
  go_wp2_with fail
  try rw [hcat]
  refine hq.mono ?_
  rintro e w4 ⟨hb4, p, n, p', n', rfl, -, -⟩
  simp only [List.length_nil]
  have d2 := cell_below c2 hb4
  have hs4 := hb4.size
  have hlt2 : w1.heap.size < w4.heap.size := by have := lt_of_blk r2; omega
  have hB : Below w.heap.size w w4 := hB1.trans ((hB2.mono hs1).trans ((hB3.mono (by omega)).trans (hb4.mono (by omega))))
  have hszB := hB.size
  clear c1 c2
  go_wp2_with fail
  go_ret
  exact ⟨rfl, hB.alloc hszB _⟩

theorem parse_n6 (v : Value) : parseR v [107, 97] = .ok (⟨v, [107], false, 97, -1, .slice none 0 0, [], [], [], []⟩, [], []) := by rfl
set_option maxRecDepth 100000 in
set_option maxHeartbeats 4000000 in
theorem names_6 (a : Int) (h0 : 0 ≤ a) (h1 : a ≤ 255) (ha : a.tmod 16 = 6) (w : World) (hk : Kn w) : Calls Tryd.prog 6 #[.int .u8 a] w fun e w' => e = .returned (.bool true) ∧ Below w.heap.size w w' := by
  go_enter Tryd.func6, Tryd.ntmps6
  go_wp2_with fail
  refine (names_any w hk).mono ?_
  rintro e w1 ⟨rfl, hw1⟩
  have hr1 : w1.heap[w.heap.size]? = some (.cells rowN 9 (0, 0)) := by rw [hw1]; exact blk_new _ _
  have hB1 : Below w.heap.size w w1 := by rw [hw1]; exact (Below.refl _ w).alloc (Nat.le_refl _) _
  clear hw1
  have hs1 := hB1.size
  go_wp2_with fail
  refine (refNames_any w1).mono ?_
  rintro e w2 ⟨rfl, hw2⟩
  have hr2 : w2.heap[w1.heap.size]? = some (.cells rowN 9 (0, 0)) := by rw [hw2]; exact blk_new _ _
  have hB2 : Below w1.heap.size w1 w2 := by rw [hw2]; exact (Below.refl _ w1).alloc (Nat.le_refl _) _
  clear hw2
  have hs2 := hB2.size
  go_wp2_with fail
  refine (known_any w2 ((hk.below hB1).below hB2)).mono ?_
  rintro e w3 ⟨rfl, hB3⟩
  have hs3 := hB3.size
  have r1 := (hB3.block _ (by have := lt_of_blk hr1; omega)).trans ((hB2.block _ (lt_of_blk hr1)).trans hr1)
  have r2 := (hB3.block _ (lt_of_blk hr2)).trans hr2
  have c1 : w3.cell? ⟨w.heap.size, 6, none⟩ = some (.string ⟨#[107]⟩) := by rw [Lib.cell_of_heap r1]; rfl
  have c2 : w3.cell? ⟨w1.heap.size, 6, none⟩ = some (.string ⟨#[107]⟩) := by rw [Lib.cell_of_heap r2]; rfl
  have hcat := (ByteArray.mk_append_mk [107] [97]).trans (show _ = (⟨([107, 97] : Bs).toArray⟩ : ByteArray) from rfl)
  have hk3 := ((hk.below hB1).below hB2).below hB3
  have hq := parse_ok (c := ⟨.nilFunc, [107], false, 97, -1, .slice none 0 0, [], [], [], []⟩) w3 hk3 (by decide) parse_n6
  go_wp2_with fail
  try rw [hcat]
  refine hq.mono ?_
  rintro e w4 ⟨hb4, p, n, p', n', rfl, -, -⟩
  simp only [List.length_nil]
  have d2 := cell_below c2 hb4
  have hs4 := hb4.size
  have hlt2 : w1.heap.size < w4.heap.size := by have := lt_of_blk r2; omega
  have hB : Below w.heap.size w w4 := hB1.trans ((hB2.mono hs1).trans ((hB3.mono (by omega)).trans (hb4.mono (by omega))))
  have hszB := hB.size
  clear c1 c2
  go_wp2_with fail
  go_ret
  exact ⟨rfl, hB.alloc hszB _⟩

theorem parse_n7 (v : Value) : parseR v [115] = .ok (⟨v, [115], false, 0, -1, .slice none 0 0, [], [], [], []⟩, [], []) := by rfl
set_option maxRecDepth 100000 in
set_option maxHeartbeats 4000000 in
theorem names_7 (a : Int) (h0 : 0 ≤ a) (h1 : a ≤ 255) (ha : a.tmod 16 = 7) (w : World) (hk : Kn w) : Calls Tryd.prog 6 #[.int .u8 a] w fun e w' => e = .returned (.bool true) ∧ Below w.heap.size w w' := by
  go_enter Tryd.func6, Tryd.ntmps6
  go_wp2_with fail
  refine (names_any w hk).mono ?_
  rintro e w1 ⟨rfl, hw1⟩
  have hr1 : w1.heap[w.heap.size]? = some (.cells rowN 9 (0, 0)) := by rw [hw1]; exact blk_new _ _
  have hB1 : Below w.heap.size w w1 := by rw [hw1]; exact (Below.refl _ w).alloc (Nat.le_refl _) _
  clear hw1
  have hs1 := hB1.size
  go_wp2_with fail
  refine (refNames_any w1).mono ?_
  rintro e w2 ⟨rfl, hw2⟩
  have hr2 : w2.heap[w1.heap.size]? = some (.cells rowN 9 (0, 0)) := by rw [hw2]; exact blk_new _ _
  have hB2 : Below w1.heap.size w1 w2 := by rw [hw2]; exact (Below.refl _ w1).alloc (Nat.le_refl _) _
  clear hw2
  have hs2 := hB2.size
  go_wp2_with fail
  refine (known_any w2 ((hk.below hB1).below hB2)).mono ?_
  rintro e w3 ⟨rfl, hB3⟩
  have hs3 := hB3.size
  have r1 := (hB3.block _ (by have := lt_of_blk hr1; omega)).trans ((hB2.block _ (lt_of_blk hr1)).trans hr1)
  have r2 := (hB3.block _ (lt_of_blk hr2)).trans hr2
  have c1 : w3.cell? ⟨w.heap.size, 7, none⟩ = some (.string ⟨#[115]⟩) := by rw [Lib.cell_of_heap r1]; rfl
  have c2 : w3.cell? ⟨w1.heap.size, 7, none⟩ = some (.string ⟨#[115]⟩) := by rw [Lib.cell_of_heap r2]; rfl
  have hcat := (ByteArray.mk_append_mk [115] []).trans (show _ = (⟨([115] : Bs).toArray⟩ : ByteArray) from rfl)
  have hk3 := ((hk.below hB1).below hB2).below hB3
  have hq := parse_ok (c := ⟨.nilFunc, [115], false, 0, -1, .slice none 0 0, [], [], [], []⟩) w3 hk3 (by decide) parse_n7
  go_wp2_with fail
  try rw [hcat]
  refine hq.mono ?_
  rintro e w4 ⟨hb4, p, n, p', n', rfl, -, -⟩
  simp only [List.length_nil]
  have d2 := cell_below c2 hb4
  have hs4 := hb4.size
  have hlt2 : w1.heap.size < w4.heap.size := by have := lt_of_blk r2; omega
  have hB : Below w.heap.size w w4 := hB1.trans ((hB2.mono hs1).trans ((hB3.mono (by omega)).trans (hb4.mono (by omega))))
  have hszB := hB.size
  clear c1 c2
  go_wp2_with fail
  go_ret
  exact ⟨rfl, hB.alloc hszB _⟩

theorem parse_n8 (v : Value) : parseR v [103, 47, 120, 47, 112] = .ok (⟨v, [103], false, 0, -1, .slice none 0 0, [120], [], [], [112]⟩, [], []) := by rfl
set_option maxRecDepth 100000 in
set_option maxHeartbeats 4000000 in
theorem names_8 (a : Int) (h0 : 0 ≤ a) (h1 : a ≤ 255) (ha : a.tmod 16 = 8) (w : World) (hk : Kn w) : Calls Tryd.prog 6 #[.int .u8 a] w fun e w' => e = .returned (.bool true) ∧ Below w.heap.size w w' := by
  go_enter Tryd.func6, Tryd.ntmps6
  go_wp2_with fail
  refine (names_any w hk).mono ?_
  rintro e w1 ⟨rfl, hw1⟩
  have hr1 : w1.heap[w.heap.size]? = some (.cells rowN 9 (0, 0)) := by rw [hw1]; exact blk_new _ _
  have hB1 : Below w.heap.size w w1 := by rw [hw1]; exact (Below.refl _ w).alloc (Nat.le_refl _) _
  clear hw1
  have hs1 := hB1.size
  go_wp2_with fail
  refine (refNames_any w1).mono ?_
  rintro e w2 ⟨rfl, hw2⟩
  have hr2 : w2.heap[w1.heap.size]? = some (.cells rowN 9 (0, 0)) := by rw [hw2]; exact blk_new _ _
  have hB2 : Below w1.heap.size w1 w2 := by rw [hw2]; exact (Below.refl _ w1).alloc (Nat.le_refl _) _
  clear hw2
  have hs2 := hB2.size
  go_wp2_with fail
  refine (known_any w2 ((hk.below hB1).below hB2)).mono ?_
  rintro e w3 ⟨rfl, hB3⟩
  have hs3 := hB3.size
  have r1 := (hB3.block _ (by have := lt_of_blk hr1; omega)).trans ((hB2.block _ (lt_of_blk hr1)).trans hr1)
  have r2 := (hB3.block _ (lt_of_blk hr2)).trans hr2
  have c1 : w3.cell? ⟨w.heap.size, 8, none⟩ = some (.string ⟨#[103]⟩) := by rw [Lib.cell_of_heap r1]; rfl
  have c2 : w3.cell? ⟨w1.heap.size, 8, none⟩ = some (.string ⟨#[103]⟩) := by rw [Lib.cell_of_heap r2]; rfl
  have hcat := (ByteArray.mk_append_mk [103] [47, 120, 47, 112]).trans (show _ = (⟨([103, 47, 120, 47, 112] : Bs).toArray⟩ : ByteArray) from rfl)
  have hk3 := ((hk.below hB1).below hB2).below hB3
  have hq := parse_ok (c := ⟨.nilFunc, [103], false, 0, -1, .slice none 0 0, [120], [], [], [112]⟩) w3 hk3 (by decide) parse_n8
  go_wp2_with fail
  try rw [hcat]
  refine hq.mono ?_
  rintro e w4 ⟨hb4, p, n, p', n', rfl, -, -⟩
  simp only [List.length_nil]
  have d2 := cell_below c2 hb4
  have hs4 := hb4.size
  have hlt2 : w1.heap.size < w4.heap.size := by have := lt_of_blk r2; omega
  have hB : Below w.heap.size w w4 := hB1.trans ((hB2.mono hs1).trans ((hB3.mono (by omega)).trans (hb4.mono (by omega))))
  have hszB := hB.size
  clear c1 c2
  go_wp2_with fail
  go_ret
  exact ⟨rfl, hB.alloc hszB _⟩

theorem parse_n9 (v : Value) : parseR v [118, 47, 120, 47, 112] = .ok (⟨v, [118], false, 0, -1, .slice none 0 0, [120], [], [], [112]⟩, [], []) := by rfl
set_option maxRecDepth 100000 in
set_option maxHeartbeats 4000000 in
theorem names_9 (a : Int) (h0 : 0 ≤ a) (h1 : a ≤ 255) (ha : a.tmod 16 = 9) (w : World) (hk : Kn w) : Calls Tryd.prog 6 #[.int .u8 a] w fun e w' => e = .returned (.bool true) ∧ Below w.heap.size w w' := by
  go_enter Tryd.func6, Tryd.ntmps6
  go_wp2_with fail
  refine (names_any w hk).mono ?_
  rintro e w1 ⟨rfl, hw1⟩
  have hr1 : w1.heap[w.heap.size]? = some (.cells rowN 9 (0, 0)) := by rw [hw1]; exact blk_new _ _
  have hB1 : Below w.heap.size w w1 := by rw [hw1]; exact (Below.refl _ w).alloc (Nat.le_refl _) _
  clear hw1
  have hs1 := hB1.size
  go_wp2_with fail
  refine (refNames_any w1).mono ?_
  rintro e w2 ⟨rfl, hw2⟩
  have hr2 : w2.heap[w1.heap.size]? = some (.cells rowN 9 (0, 0)) := by rw [hw2]; exact blk_new _ _
  have hB2 : Below w1.heap.size w1 w2 := by rw [hw2]; exact (Below.refl _ w1).alloc (Nat.le_refl _) _
  clear hw2
  have hs2 := hB2.size
  go_wp2_with fail
  refine (known_any w2 ((hk.below hB1).below hB2)).mono ?_
  rintro e w3 ⟨rfl, hB3⟩
  have hs3 := hB3.size
  have r1 := (hB3.block _ (by have := lt_of_blk hr1; omega)).trans ((hB2.block _ (lt_of_blk hr1)).trans hr1)
  have r2 := (hB3.block _ (lt_of_blk hr2)).trans hr2
  have c1 : w3.cell? ⟨w.heap.size, 9, none⟩ = some (.string ⟨#[118]⟩) := by rw [Lib.cell_of_heap r1]; rfl
  have c2 : w3.cell? ⟨w1.heap.size, 9, none⟩ = some (.string ⟨#[118]⟩) := by rw [Lib.cell_of_heap r2]; rfl
  have hcat := (ByteArray.mk_append_mk [118] [47, 120, 47, 112]).trans (show _ = (⟨([118, 47, 120, 47, 112] : Bs).toArray⟩ : ByteArray) from rfl)
  have hk3 := ((hk.below hB1).below hB2).below hB3
  have hq := parse_ok (c := ⟨.nilFunc, [118], false, 0, -1, .slice none 0 0, [120], [], [], [112]⟩) w3 hk3 (by decide) parse_n9
  go_wp2_with fail
  try rw [hcat]
  refine hq.mono ?_
  rintro e w4 ⟨hb4, p, n, p', n', rfl, -, -⟩
  simp only [List.length_nil]
  have d2 := cell_below c2 hb4
  have hs4 := hb4.size
  have hlt2 : w1.heap.size < w4.heap.size := by have := lt_of_blk r2; omega
  have hB : Below w.heap.size w w4 := hB1.trans ((hB2.mono hs1).trans ((hB3.mono (by omega)).trans (hb4.mono (by omega))))
  have hszB := hB.size
  clear c1 c2
  go_wp2_with fail
  go_ret
  exact ⟨rfl, hB.alloc hszB _⟩

theorem parse_n10 (v : Value) : parseR v [110, 111, 114, 109, 32, 106] = .ok (⟨v, [110, 111, 114, 109], false, 0, -1, .slice none 0 0, [], [], [], [106]⟩, [], []) := by rfl
set_option maxRecDepth 100000 in
set_option maxHeartbeats 4000000 in
theorem names_10 (a : Int) (h0 : 0 ≤ a) (h1 : a ≤ 255) (ha : a.tmod 16 = 10) (w : World) (hk : Kn w) : Calls Tryd.prog 6 #[.int .u8 a] w fun e w' => e = .returned (.bool true) ∧ Below w.heap.size w w' := by
  go_enter Tryd.func6, Tryd.ntmps6
  go_wp2_with fail
  refine (names_any w hk).mono ?_
  rintro e w1 ⟨rfl, hw1⟩
  have hr1 : w1.heap[w.heap.size]? = some (.cells rowN 9 (0, 0)) := by rw [hw1]; exact blk_new _ _
  have hB1 : Below w.heap.size w w1 := by rw [hw1]; exact (Below.refl _ w).alloc (Nat.le_refl _) _
  clear hw1
  have hs1 := hB1.size
  go_wp2_with fail
  refine (refNames_any w1).mono ?_
  rintro e w2 ⟨rfl, hw2⟩
  have hr2 : w2.heap[w1.heap.size]? = some (.cells rowN 9 (0, 0)) := by rw [hw2]; exact blk_new _ _
  have hB2 : Below w1.heap.size w1 w2 := by rw [hw2]; exact (Below.refl _ w1).alloc (Nat.le_refl _) _
  clear hw2
  have hs2 := hB2.size
  go_wp2_with fail
  refine (known_any w2 ((hk.below hB1).below hB2)).mono ?_
  rintro e w3 ⟨rfl, hB3⟩
  have hs3 := hB3.size
  have r1 := (hB3.block _ (by have := lt_of_blk hr1; omega)).trans ((hB2.block _ (lt_of_blk hr1)).trans hr1)
  have r2 := (hB3.block _ (lt_of_blk hr2)).trans hr2
  have c1 : w3.cell? ⟨w.heap.size, 10, none⟩ = some (.string ⟨#[110, 111, 114, 109]⟩) := by rw [Lib.cell_of_heap r1]; rfl
  have c2 : w3.cell? ⟨w1.heap.size, 10, none⟩ = some (.string ⟨#[110, 111, 114, 109]⟩) := by rw [Lib.cell_of_heap r2]; rfl
  have hcat := (ByteArray.mk_append_mk [110, 111, 114, 109] [32, 106]).trans (show _ = (⟨([110, 111, 114, 109, 32, 106] : Bs).toArray⟩ : ByteArray) from rfl)
  have hk3 := ((hk.below hB1).below hB2).below hB3
  have hq := parse_ok (c := ⟨.nilFunc, [110, 111, 114, 109], false, 0, -1, .slice none 0 0, [], [], [], [106]⟩) w3 hk3 (by decide) parse_n10
  go_wp2_with fail
  try rw [hcat]
  refine hq.mono ?_
  rintro e w4 ⟨hb4, p, n, p', n', rfl, -, -⟩
  simp only [List.length_nil]
  have d2 := cell_below c2 hb4
  have hs4 := hb4.size
  have hlt2 : w1.heap.size < w4.heap.size := by have := lt_of_blk r2; omega
  have hB : Below w.heap.size w w4 := hB1.trans ((hB2.mono hs1).trans ((hB3.mono (by omega)).trans (hb4.mono (by omega))))
  have hszB := hB.size
  clear c1 c2
  go_wp2_with fail
  go_ret
  exact ⟨rfl, hB.alloc hszB _⟩

theorem parse_n11 (v : Value) : parseR v [117] = .ok (⟨v, [117], false, 0, -1, .slice none 0 0, [], [], [], []⟩, [], []) := by rfl
set_option maxRecDepth 100000 in
set_option maxHeartbeats 4000000 in
theorem names_11 (a : Int) (h0 : 0 ≤ a) (h1 : a ≤ 255) (ha : a.tmod 16 = 11) (w : World) (hk : Kn w) : Calls Tryd.prog 6 #[.int .u8 a] w fun e w' => e = .returned (.bool true) ∧ Below w.heap.size w w' := by
  go_enter Tryd.func6, Tryd.ntmps6
  go_wp2_with fail
  refine (names_any w hk).mono ?_
  rintro e w1 ⟨rfl, hw1⟩
  have hr1 : w1.heap[w.heap.size]? = some (.cells rowN 9 (0, 0)) := by rw [hw1]; exact blk_new _ _
  have hB1 : Below w.heap.size w w1 := by rw [hw1]; exact (Below.refl _ w).alloc (Nat.le_refl _) _
  clear hw1
  have hs1 := hB1.size
  go_wp2_with fail
  refine (refNames_any w1).mono ?_
  rintro e w2 ⟨rfl, hw2⟩
  have hr2 : w2.heap[w1.heap.size]? = some (.cells rowN 9 (0, 0)) := by rw [hw2]; exact blk_new _ _
  have hB2 : Below w1.heap.size w1 w2 := by rw [hw2]; exact (Below.refl _ w1).alloc (Nat.le_refl _) _
  clear hw2
  have hs2 := hB2.size
  go_wp2_with fail
  refine (known_any w2 ((hk.below hB1).below hB2)).mono ?_
  rintro e w3 ⟨rfl, hB3⟩
  have hs3 := hB3.size
  have r1 := (hB3.block _ (by have := lt_of_blk hr1; omega)).trans ((hB2.block _ (lt_of_blk hr1)).trans hr1)
  have r2 := (hB3.block _ (lt_of_blk hr2)).trans hr2
  have c1 : w3.cell? ⟨w.heap.size, 11, none⟩ = some (.string ⟨#[117]⟩) := by rw [Lib.cell_of_heap r1]; rfl
  have c2 : w3.cell? ⟨w1.heap.size, 11, none⟩ = some (.string ⟨#[117]⟩) := by rw [Lib.cell_of_heap r2]; rfl
  have hcat := (ByteArray.mk_append_mk [117] []).trans (show _ = (⟨([117] : Bs).toArray⟩ : ByteArray) from rfl)
  have hk3 := ((hk.below hB1).below hB2).below hB3
  have hq := parse_ok (c := ⟨.nilFunc, [117], false, 0, -1, .slice none 0 0, [], [], [], []⟩) w3 hk3 (by decide) parse_n11
  go_wp2_with fail
  try rw [hcat]
  refine hq.mono ?_
  rintro e w4 ⟨hb4, p, n, p', n', rfl, -, -⟩
  simp only [List.length_nil]
  have d2 := cell_below c2 hb4
  have hs4 := hb4.size
  have hlt2 : w1.heap.size < w4.heap.size := by have := lt_of_blk r2; omega
  have hB : Below w.heap.size w w4 := hB1.trans ((hB2.mono hs1).trans ((hB3.mono (by omega)).trans (hb4.mono (by omega))))
  have hszB := hB.size
  clear c1 c2
  go_wp2_with fail
  go_ret
  exact ⟨rfl, hB.alloc hszB _⟩

theorem parse_n12 (v : Value) : parseR v [114, 101, 100] = .ok (⟨v, [114, 101, 100], false, 0, -1, .slice none 0 0, [], [], [], []⟩, [], []) := by rfl
set_option maxRecDepth 100000 in
set_option maxHeartbeats 4000000 in
theorem names_12 (a : Int) (h0 : 0 ≤ a) (h1 : a ≤ 255) (ha : a.tmod 16 = 12) (w : World) (hk : Kn w) : Calls Tryd.prog 6 #[.int .u8 a] w fun e w' => e = .returned (.bool true) ∧ Below w.heap.size w w' := by
  go_enter Tryd.func6, Tryd.ntmps6
  go_wp2_with fail
  refine (names_any w hk).mono ?_
  rintro e w1 ⟨rfl, hw1⟩
  have hr1 : w1.heap[w.heap.size]? = some (.cells rowN 9 (0, 0)) := by rw [hw1]; exact blk_new _ _
  have hB1 : Below w.heap.size w w1 := by rw [hw1]; exact (Below.refl _ w).alloc (Nat.le_refl _) _
  clear hw1
  have hs1 := hB1.size
  go_wp2_with fail
  refine (refNames_any w1).mono ?_
  rintro e w2 ⟨rfl, hw2⟩
  have hr2 : w2.heap[w1.heap.size]? = some (.cells rowN 9 (0, 0)) := by rw [hw2]; exact blk_new _ _
  have hB2 : Below w1.heap.size w1 w2 := by rw [hw2]; exact (Below.refl _ w1).alloc (Nat.le_refl _) _
  clear hw2
  have hs2 := hB2.size
  go_wp2_with fail
  refine (known_any w2 ((hk.below hB1).below hB2)).mono ?_
  rintro e w3 ⟨rfl, hB3⟩
  have hs3 := hB3.size
  have r1 := (hB3.block _ (by have := lt_of_blk hr1; omega)).trans ((hB2.block _ (lt_of_blk hr1)).trans hr1)
  have r2 := (hB3.block _ (lt_of_blk hr2)).trans hr2
  have c1 : w3.cell? ⟨w.heap.size, 12, none⟩ = some (.string ⟨#[114, 101, 100]⟩) := by rw [Lib.cell_of_heap r1]; rfl
  have c2 : w3.cell? ⟨w1.heap.size, 12, none⟩ = some (.string ⟨#[114, 101, 100]⟩) := by rw [Lib.cell_of_heap r2]; rfl
  have hcat := (ByteArray.mk_append_mk [114, 101, 100] []).trans (show _ = (⟨([114, 101, 100] : Bs).toArray⟩ : ByteArray) from rfl)
  have hk3 := ((hk.below hB1).below hB2).below hB3
  have hq := parse_ok (c := ⟨.nilFunc, [114, 101, 100], false, 0, -1, .slice none 0 0, [], [], [], []⟩) w3 hk3 (by decide) parse_n12
  go_wp2_with fail
  try rw [hcat]
  refine hq.mono ?_
  rintro e w4 ⟨hb4, p, n, p', n', rfl, -, -⟩
  simp only [List.length_nil]
  have d2 := cell_below c2 hb4
  have hs4 := hb4.size
  have hlt2 : w1.heap.size < w4.heap.size := by have := lt_of_blk r2; omega
  have hB : Below w.heap.size w w4 := hB1.trans ((hB2.mono hs1).trans ((hB3.mono (by omega)).trans (hb4.mono (by omega))))
  have hszB := hB.size
  clear c1 c2
  go_wp2_with fail
  go_ret
  exact ⟨rfl, hB.alloc hszB _⟩

theorem parse_n13 (v : Value) : parseR v [101, 97, 114, 108, 105, 101, 114] = .ok (⟨v, [101, 97, 114, 108, 105, 101, 114], false, 0, -1, .slice none 0 0, [], [], [], []⟩, [], []) := by rfl
set_option maxRecDepth 100000 in
set_option maxHeartbeats 4000000 in
theorem names_13 (a : Int) (h0 : 0 ≤ a) (h1 : a ≤ 255) (ha : a.tmod 16 = 13) (w : World) (hk : Kn w) : Calls Tryd.prog 6 #[.int .u8 a] w fun e w' => e = .returned (.bool true) ∧ Below w.heap.size w w' := by
  go_enter Tryd.func6, Tryd.ntmps6
  go_wp2_with fail
  refine (names_any w hk).mono ?_
  rintro e w1 ⟨rfl, hw1⟩
  have hr1 : w1.heap[w.heap.size]? = some (.cells rowN 9 (0, 0)) := by rw [hw1]; exact blk_new _ _
  have hB1 : Below w.heap.size w w1 := by rw [hw1]; exact (Below.refl _ w).alloc (Nat.le_refl _) _
  clear hw1
  have hs1 := hB1.size
  go_wp2_with fail
  refine (refNames_any w1).mono ?_
  rintro e w2 ⟨rfl, hw2⟩
  have hr2 : w2.heap[w1.heap.size]? = some (.cells rowN 9 (0, 0)) := by rw [hw2]; exact blk_new _ _
  have hB2 : Below w1.heap.size w1 w2 := by rw [hw2]; exact (Below.refl _ w1).alloc (Nat.le_refl _) _
  clear hw2
  have hs2 := hB2.size
  go_wp2_with fail
  refine (known_any w2 ((hk.below hB1).below hB2)).mono ?_
  rintro e w3 ⟨rfl, hB3⟩
  have hs3 := hB3.size
  have r1 := (hB3.block _ (by have := lt_of_blk hr1; omega)).trans ((hB2.block _ (lt_of_blk hr1)).trans hr1)
  have r2 := (hB3.block _ (lt_of_blk hr2)).trans hr2
  have c1 : w3.cell? ⟨w.heap.size, 13, none⟩ = some (.string ⟨#[101, 97, 114, 108, 105, 101, 114]⟩) := by rw [Lib.cell_of_heap r1]; rfl
  have c2 : w3.cell? ⟨w1.heap.size, 13, none⟩ = some (.string ⟨#[101, 97, 114, 108, 105, 101, 114]⟩) := by rw [Lib.cell_of_heap r2]; rfl
  have hcat := (ByteArray.mk_append_mk [101, 97, 114, 108, 105, 101, 114] []).trans (show _ = (⟨([101, 97, 114, 108, 105, 101, 114] : Bs).toArray⟩ : ByteArray) from rfl)
  have hk3 := ((hk.below hB1).below hB2).below hB3
  have hq := parse_ok (c := ⟨.nilFunc, [101, 97, 114, 108, 105, 101, 114], false, 0, -1, .slice none 0 0, [], [], [], []⟩) w3 hk3 (by decide) parse_n13
  go_wp2_with fail
  try rw [hcat]
  refine hq.mono ?_
  rintro e w4 ⟨hb4, p, n, p', n', rfl, -, -⟩
  simp only [List.length_nil]
  have d2 := cell_below c2 hb4
  have hs4 := hb4.size
  have hlt2 : w1.heap.size < w4.heap.size := by have := lt_of_blk r2; omega
  have hB : Below w.heap.size w w4 := hB1.trans ((hB2.mono hs1).trans ((hB3.mono (by omega)).trans (hb4.mono (by omega))))
  have hszB := hB.size
  clear c1 c2
  go_wp2_with fail
  go_ret
  exact ⟨rfl, hB.alloc hszB _⟩

theorem parse_n14 (v : Value) : parseR v [108, 97, 116, 101, 114] = .ok (⟨v, [108, 97, 116, 101, 114], false, 0, -1, .slice none 0 0, [], [], [], []⟩, [], []) := by rfl
set_option maxRecDepth 100000 in
set_option maxHeartbeats 4000000 in
theorem names_14 (a : Int) (h0 : 0 ≤ a) (h1 : a ≤ 255) (ha : a.tmod 16 = 14) (w : World) (hk : Kn w) : Calls Tryd.prog 6 #[.int .u8 a] w fun e w' => e = .returned (.bool true) ∧ Below w.heap.size w w' := by
  go_enter Tryd.func6, Tryd.ntmps6
  go_wp2_with fail
  refine (names_any w hk).mono ?_
  rintro e w1 ⟨rfl, hw1⟩
  have hr1 : w1.heap[w.heap.size]? = some (.cells rowN 9 (0, 0)) := by rw [hw1]; exact blk_new _ _
  have hB1 : Below w.heap.size w w1 := by rw [hw1]; exact (Below.refl _ w).alloc (Nat.le_refl _) _
  clear hw1
  have hs1 := hB1.size
  go_wp2_with fail
  refine (refNames_any w1).mono ?_
  rintro e w2 ⟨rfl, hw2⟩
  have hr2 : w2.heap[w1.heap.size]? = some (.cells rowN 9 (0, 0)) := by rw [hw2]; exact blk_new _ _
  have hB2 : Below w1.heap.size w1 w2 := by rw [hw2]; exact (Below.refl _ w1).alloc (Nat.le_refl _) _
  clear hw2
  have hs2 := hB2.size
  go_wp2_with fail
  refine (known_any w2 ((hk.below hB1).below hB2)).mono ?_
  rintro e w3 ⟨rfl, hB3⟩
  have hs3 := hB3.size
  have r1 := (hB3.block _ (by have := lt_of_blk hr1; omega)).trans ((hB2.block _ (lt_of_blk hr1)).trans hr1)
  have r2 := (hB3.block _ (lt_of_blk hr2)).trans hr2
  have c1 : w3.cell? ⟨w.heap.size, 14, none⟩ = some (.string ⟨#[108, 97, 116, 101, 114]⟩) := by rw [Lib.cell_of_heap r1]; rfl
  have c2 : w3.cell? ⟨w1.heap.size, 14, none⟩ = some (.string ⟨#[108, 97, 116, 101, 114]⟩) := by rw [Lib.cell_of_heap r2]; rfl
  have hcat := (ByteArray.mk_append_mk [108, 97, 116, 101, 114] []).trans (show _ = (⟨([108, 97, 116, 101, 114] : Bs).toArray⟩ : ByteArray) from rfl)
  have hk3 := ((hk.below hB1).below hB2).below hB3
  have hq := parse_ok (c := ⟨.nilFunc, [108, 97, 116, 101, 114], false, 0, -1, .slice none 0 0, [], [], [], []⟩) w3 hk3 (by decide) parse_n14
  go_wp2_with fail
  try rw [hcat]
  refine hq.mono ?_
  rintro e w4 ⟨hb4, p, n, p', n', rfl, -, -⟩
  simp only [List.length_nil]
  have d2 := cell_below c2 hb4
  have hs4 := hb4.size
  have hlt2 : w1.heap.size < w4.heap.size := by have := lt_of_blk r2; omega
  have hB : Below w.heap.size w w4 := hB1.trans ((hB2.mono hs1).trans ((hB3.mono (by omega)).trans (hb4.mono (by omega))))
  have hszB := hB.size
  clear c1 c2
  go_wp2_with fail
  go_ret
  exact ⟨rfl, hB.alloc hszB _⟩

theorem parse_n15 (v : Value) : parseR v [112] = .ok (⟨v, [112], false, 0, -1, .slice none 0 0, [], [], [], []⟩, [], []) := by rfl
set_option maxRecDepth 100000 in
set_option maxHeartbeats 4000000 in
theorem names_15 (a : Int) (h0 : 0 ≤ a) (h1 : a ≤ 255) (ha : a.tmod 16 = 15) (w : World) (hk : Kn w) : Calls Tryd.prog 6 #[.int .u8 a] w fun e w' => e = .returned (.bool true) ∧ Below w.heap.size w w' := by
  go_enter Tryd.func6, Tryd.ntmps6
  go_wp2_with fail
  refine (names_any w hk).mono ?_
  rintro e w1 ⟨rfl, hw1⟩
  have hr1 : w1.heap[w.heap.size]? = some (.cells rowN 9 (0, 0)) := by rw [hw1]; exact blk_new _ _
  have hB1 : Below w.heap.size w w1 := by rw [hw1]; exact (Below.refl _ w).alloc (Nat.le_refl _) _
  clear hw1
  have hs1 := hB1.size
  go_wp2_with fail
  refine (refNames_any w1).mono ?_
  rintro e w2 ⟨rfl, hw2⟩
  have hr2 : w2.heap[w1.heap.size]? = some (.cells rowN 9 (0, 0)) := by rw [hw2]; exact blk_new _ _
  have hB2 : Below w1.heap.size w1 w2 := by rw [hw2]; exact (Below.refl _ w1).alloc (Nat.le_refl _) _
  clear hw2
  have hs2 := hB2.size
  go_wp2_with fail
  refine (known_any w2 ((hk.below hB1).below hB2)).mono ?_
  rintro e w3 ⟨rfl, hB3⟩
  have hs3 := hB3.size
  have r1 := (hB3.block _ (by have := lt_of_blk hr1; omega)).trans ((hB2.block _ (lt_of_blk hr1)).trans hr1)
  have r2 := (hB3.block _ (lt_of_blk hr2)).trans hr2
  have c1 : w3.cell? ⟨w.heap.size, 15, none⟩ = some (.string ⟨#[112]⟩) := by rw [Lib.cell_of_heap r1]; rfl
  have c2 : w3.cell? ⟨w1.heap.size, 15, none⟩ = some (.string ⟨#[112]⟩) := by rw [Lib.cell_of_heap r2]; rfl
  have hcat := (ByteArray.mk_append_mk [112] []).trans (show _ = (⟨([112] : Bs).toArray⟩ : ByteArray) from rfl)
  have hk3 := ((hk.below hB1).below hB2).below hB3
  have hq := parse_ok (c := ⟨.nilFunc, [112], false, 0, -1, .slice none 0 0, [], [], [], []⟩) w3 hk3 (by decide) parse_n15
  go_wp2_with fail
  try rw [hcat]
  refine hq.mono ?_
  rintro e w4 ⟨hb4, p, n, p', n', rfl, -, -⟩
  simp only [List.length_nil]
  have d2 := cell_below c2 hb4
  have hs4 := hb4.size
  have hlt2 : w1.heap.size < w4.heap.size := by have := lt_of_blk r2; omega
  have hB : Below w.heap.size w w4 := hB1.trans ((hB2.mono hs1).trans ((hB3.mono (by omega)).trans (hb4.mono (by omega))))
  have hszB := hB.size
  clear c1 c2
  go_wp2_with fail
  go_ret
  exact ⟨rfl, hB.alloc hszB _⟩

theorem namesLaw_any (a : Int) (ha : (Lit.int .u8 a).wf = true) (w : World) (hk : Kn w) : Calls Tryd.prog 6 #[.int .u8 a] w fun e w' => e = .returned (.bool true) ∧ Below w.heap.size w w' := by
  obtain ⟨h0, h1⟩ := fit8 ha
  obtain ⟨i, hi, hm⟩ := mod_nat h0 16 (by decide)
  have hc : i = 0 ∨ i = 1 ∨ i = 2 ∨ i = 3 ∨ i = 4 ∨ i = 5 ∨ i = 6 ∨ i = 7 ∨ i = 8 ∨ i = 9 ∨ i = 10 ∨ i = 11 ∨ i = 12 ∨ i = 13 ∨ i = 14 ∨ i = 15 := by omega
  rcases hc with rfl | rfl | rfl | rfl | rfl | rfl | rfl | rfl | rfl | rfl | rfl | rfl | rfl | rfl | rfl | rfl
  · exact names_0 a h0 h1 hm w hk
  · exact names_1 a h0 h1 hm w hk
  · exact names_2 a h0 h1 hm w hk
  · exact names_3 a h0 h1 hm w hk
  · exact names_4 a h0 h1 hm w hk
  · exact names_5 a h0 h1 hm w hk
  · exact names_6 a h0 h1 hm w hk
  · exact names_7 a h0 h1 hm w hk
  · exact names_8 a h0 h1 hm w hk
  · exact names_9 a h0 h1 hm w hk
  · exact names_10 a h0 h1 hm w hk
  · exact names_11 a h0 h1 hm w hk
  · exact names_12 a h0 h1 hm w hk
  · exact names_13 a h0 h1 hm w hk
  · exact names_14 a h0 h1 hm w hk
  · exact names_15 a h0 h1 hm w hk
end Go.Proofs.YthajagmccaaanaaDoor
