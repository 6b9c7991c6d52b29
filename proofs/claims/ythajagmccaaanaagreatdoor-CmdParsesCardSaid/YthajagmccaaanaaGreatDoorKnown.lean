/- The chapter's examples: emendatorlaw15.known. -/
import Derived.Test.YthajagmccaaanaaGreatDoorParseD
namespace Go.Proofs.YthajagmccaaanaaGreatDoor
open Go.RowKit

/-- What the laws need of the world: two variables. -/
def Kn (w : World) : Prop := (∃ m, w.cell? ⟨2, 0, none⟩ = some (.int .i64 m)) ∧ Lib.TabIs Tryz.prog w "strings.asciiSpace" .u8 Lib.asciiSpaceTab

theorem parse_k1 (v : Value) : parseR v [37, 115, 47, 97, 92, 47, 98, 47, 99, 47, 103, 32, 51] = .ok (⟨v, [115], false, 0, 3, .slice none 0 0, [97, 47, 98], [99], [103], [61]⟩, [⟨1, 1, 0, [], 0, false⟩, ⟨3, 0, 0, [], 0, false⟩], []) := by rfl
theorem parse_k2 (v : Value) : parseR v [100, 120] = .ok (⟨v, [100], false, 120, -1, .slice none 0 0, [], [], [], []⟩, [], []) := by rfl
theorem parse_k3 (v : Value) : parseR v [122, 122] = .error 150 := by rfl

theorem cell_below {w w' : World} {a : Addr} {v : Value} (h : w.cell? a = some v) (hb : Below w.heap.size w w') : w'.cell? a = some v := by
  have hlt : a.block < w.heap.size := by
    unfold World.cell? at h
    cases hh : w.heap[a.block]? with
    | none => rw [hh] at h; cases h
    | some o => exact lt_of_blk hh
  exact (hb.cell hlt).trans h
theorem Kn.below {w w' : World} (h : Kn w) (hb : Below w.heap.size w w') : Kn w' := by
  obtain ⟨⟨m, h1⟩, h2⟩ := h
  refine ⟨⟨m, cell_below h1 hb⟩, ?_⟩
  unfold Lib.TabIs World.var? at h2 ⊢
  cases hg : Tryz.prog.globalNamed "strings.asciiSpace" with
  | none => rw [hg] at h2; cases h2
  | some g =>
    rw [hg] at h2
    simp only [Option.bind_some] at h2 ⊢
    cases hh : w.heap[g]? with
    | none => rw [hh] at h2; cases h2
    | some o =>
      rw [hb.block g (lt_of_blk hh), hh]
      rw [hh] at h2
      exact h2

/-- A command that Parse gives, for a text whose reading is known. -/
theorem parse_ok {s : Bs} {c : Cm} {ads dst : List Ad} (w : World) (hk : Kn w) (hs : s.length ≤ 1000000) (h : ∀ v, parseR v s = .ok ({ c with rv := v }, ads, dst)) :
    Calls Tryz.prog 5 #[.string ⟨s.toArray⟩] w fun e w' => Below w.heap.size w w' ∧ ∃ p n p' n', e = .returned (.tuple #[.agg #[.slice p ads.length n, .string ⟨c.name.toArray⟩, .bool c.bang, .int .u8 c.reg.toNat, .int .i64 c.count, .slice p' dst.length n', .string ⟨c.pat.toArray⟩, .string ⟨c.rep.toArray⟩, .string ⟨c.flags.toArray⟩, .string ⟨c.arg.toArray⟩], .int .u16 0]) ∧
      AdsV w.heap.size (.slice p ads.length n) ads w' ∧ AdsV w.heap.size (.slice p' dst.length n') dst w' := by
  obtain ⟨⟨m, hm⟩, _⟩ := hk
  refine (cmdParse_any s w m hm hs).mono ?_
  rintro e w' ⟨hb, v, hp⟩
  rw [h v] at hp
  obtain ⟨d, rfl, h1, h2⟩ := hp
  obtain ⟨p, n, rfl⟩ := h1.shape
  obtain ⟨p', n', rfl⟩ := h2.shape
  exact ⟨hb, p, n, p', n', rfl, h1, h2⟩
theorem parse_err {s : Bs} {k : Int} (w : World) (hk : Kn w) (hs : s.length ≤ 1000000) (h : ∀ v, parseR v s = .error k) :
    Calls Tryz.prog 5 #[.string ⟨s.toArray⟩] w fun e w' => Below w.heap.size w w' ∧ e = .returned (.tuple #[.agg #[.slice none 0 0, .string ⟨#[]⟩, .bool false, .int .u8 0, .int .i64 0, .slice none 0 0, .string ⟨#[]⟩, .string ⟨#[]⟩, .string ⟨#[]⟩, .string ⟨#[]⟩], .int .u16 k]) := by
  obtain ⟨⟨m, hm⟩, _⟩ := hk
  refine (cmdParse_any s w m hm hs).mono ?_
  rintro e w' ⟨hb, v, hp⟩
  rw [h v] at hp
  exact ⟨hb, hp⟩

def nameText : Bs := [100, 32, 109, 32, 116, 32, 106, 32, 121, 32, 112, 117, 32, 107, 32, 115, 32, 103, 32, 118, 32, 110, 111, 114, 109, 32, 117, 32, 114, 101, 100, 32, 101, 97, 114, 108, 105, 101, 114, 32, 108, 97, 116, 101, 114, 32, 112]
def nameList : List Bs := [[100], [109], [116], [106], [121], [112, 117], [107], [115], [103], [118], [110, 111, 114, 109], [117], [114, 101, 100], [101, 97, 114, 108, 105, 101, 114], [108, 97, 116, 101, 114], [112]]
theorem name_fields : Lib.fields nameText = nameList := by kernel_rfl
theorem names_any (w : World) (hk : Kn w) : Calls Tryz.prog 8 #[] w fun e w' => e = .returned (.slice (some ⟨w.heap.size, 0, none⟩) 16 16) ∧
    w' = w.alloc (.cells #[.string ⟨#[100]⟩, .string ⟨#[109]⟩, .string ⟨#[116]⟩, .string ⟨#[106]⟩, .string ⟨#[121]⟩, .string ⟨#[112, 117]⟩, .string ⟨#[107]⟩, .string ⟨#[115]⟩, .string ⟨#[103]⟩, .string ⟨#[118]⟩, .string ⟨#[110, 111, 114, 109]⟩, .string ⟨#[117]⟩, .string ⟨#[114, 101, 100]⟩, .string ⟨#[101, 97, 114, 108, 105, 101, 114]⟩, .string ⟨#[108, 97, 116, 101, 114]⟩, .string ⟨#[112]⟩] 9 (0, 0)) := by
  go_enter Tryz.func8, Tryz.ntmps8
  go_wp2_with fail
  refine (Tryz.strings_Fields_laid ⟨nameText.toArray⟩ w (by decide) ?_ hk.2).mono ?_
  · have hall : ∀ b ∈ nameText, b.toNat < 128 := by decide
    intro j b hj
    exact hall b (List.mem_of_getElem? hj)
  · rintro e w' ⟨he, hw⟩
    rw [show Lib.fields (⟨nameText.toArray⟩ : ByteArray).data.toList = nameList from name_fields] at he hw
    subst he hw
    go_wp2_with fail
    go_ret
    exact ⟨rfl, rfl⟩

theorem bstr {a b : Bool} (h : a = b) : (Ending.returned (.bool a)) = .returned (.bool b) := by rw [h]
set_option maxRecDepth 100000 in
set_option maxHeartbeats 4000000 in
theorem known_any (w : World) (hk : Kn w) : Calls Tryz.prog 4 #[] w fun e w' => e = .returned (.bool true) ∧ Below w.heap.size w w' := by
  go_enter Tryz.func4, Tryz.ntmps4
  go_wp2_with fail
  refine (parse_ok (c := ⟨.nilFunc, [115], false, 0, 3, .slice none 0 0, [97, 47, 98], [99], [103], [61]⟩) w hk (by decide) parse_k1).mono ?_
  rintro e w1 ⟨hb1, p, n, p', n', rfl, -, -⟩
  have hk1 := hk.below hb1
  simp only [List.length_cons, List.length_nil]
  go_wp2_with fail
  refine name_world (Q := fun W1 => Calls _ _ _ W1 _) _ fun W1 hW1 => ?_
  have hc1 : CB w1.heap.size ⟨.slice p 2 n, [115], false, 0, 3, .slice p' 0 n', [97, 47, 98], [99], [103], [61]⟩ W1 := by rw [hW1]; exact blk_new _ _
  have hB1 : Below w1.heap.size w1 W1 := by rw [hW1]; exact (Below.refl _ w1).alloc (Nat.le_refl _) _
  clear hW1
  have hkW := hk1.below hB1
  refine (parse_ok (c := ⟨.nilFunc, [100], false, 120, -1, .slice none 0 0, [], [], [], []⟩) W1 hkW (by decide) parse_k2).mono ?_
  rintro e w2 ⟨hb2, q, j, q', j', rfl, -, -⟩
  have hk2 := hkW.below hb2
  have hc2 : CB w1.heap.size _ w2 := (hb2.block _ (lt_of_blk hc1)).trans hc1
  simp only [List.length_nil]
  go_wp2_with fail
  refine name_world (Q := fun W1 => Calls _ _ _ W1 _) _ fun W2 hW2 => ?_
  have hd2 : CB w2.heap.size ⟨.slice q 0 j, [100], false, 120, -1, .slice q' 0 j', [], [], [], []⟩ W2 := by rw [hW2]; exact blk_new _ _
  have hB2 : Below w2.heap.size w2 W2 := by rw [hW2]; exact (Below.refl _ w2).alloc (Nat.le_refl _) _
  clear hW2
  have hkW2 := hk2.below hB2
  have hcW2 : CB w1.heap.size _ W2 := (hB2.block _ (lt_of_blk hc2)).trans hc2
  refine (parse_err W2 hkW2 (by decide) parse_k3).mono ?_
  rintro e w3 ⟨hb3, rfl⟩
  have hk3 := hkW2.below hb3
  have hc3 : CB w1.heap.size _ w3 := (hb3.block _ (lt_of_blk hcW2)).trans hcW2
  have hd3 : CB w2.heap.size _ w3 := (hb3.block _ (lt_of_blk hd2)).trans hd2
  have hlt1 := lt_of_blk hc3
  have hlt2 := lt_of_blk hd3
  obtain ⟨x0, x1, x2, x3, x4, x5, x6, x7, x8, x9⟩ := ten_cells hc3
  obtain ⟨y0, y1, y2, y3, y4, y5, y6, y7, y8, y9⟩ := ten_cells hd3
  simp only [show (120 : UInt8).toNat = 120 from rfl] at y3
  have hBall : Below w.heap.size w w3 := hb1.trans ((hB1.mono hb1.size).trans ((hb2.mono (Nat.le_trans hb1.size hB1.size)).trans ((hB2.mono (Nat.le_trans hb1.size (Nat.le_trans hB1.size hb2.size))).trans (hb3.mono (Nat.le_trans hb1.size (Nat.le_trans hB1.size (Nat.le_trans hb2.size hB2.size)))))))
  clear hc1 hc2 hcW2 hc3 hd2 hd3
  go_wp2_with fail
  refine name_world (Q := fun W1 => Calls _ _ _ W1 _) _ fun W3 hW3 => ?_
  have hB3 : Below w3.heap.size w3 W3 := by rw [hW3]; exact (Below.refl _ w3).alloc (Nat.le_refl _) _
  clear hW3
  refine (names_any W3 (hk3.below hB3)).mono ?_
  rintro e w4 ⟨rfl, rfl⟩
  go_wp2_with fail
  go_ret
  exact ⟨rfl, (hBall.trans (hB3.mono hBall.size)).alloc (by have := hBall.size; have := hB3.size; omega) _⟩
end Go.Proofs.YthajagmccaaanaaGreatDoor
