/- cmd.words: the walk. -/
import Derived.Test.YthajagmccaaanaaGreatDoorTable
namespace Go.Proofs.YthajagmccaaanaaGreatDoor
open Go.RowKit

theorem und63 : Tryz.prog.underlying 64 = some (.map 5 63) := by kernel_rfl
theorem und5 : Tryz.prog.underlying 5 = some (.int .u8) := by kernel_rfl
theorem und62 : Tryz.prog.underlying 63 = some (.slice 67) := by kernel_rfl
theorem zero62 (w : World) : (zeroValue 63).run Tryz.prog w = .ok (.slice none 0 0) w := by kernel_rfl

set_option maxRecDepth 100000 in
theorem step_make {o : Oper} {a : Act} {n : Act → World → Prop} {Q : Exit → Act → World → Prop} {t : TypeId} {w : World}
    (h : ∀ W, MapW 67 w w.heap.size [] W → Oper.upon Tryz.prog o a n Q (.ok (.value (.map (some w.heap.size))) W)) :
    Oper.upon Tryz.prog o a n Q (((Instr.makeMap t none).run Tryz.prog w).andThen fun a w' => .ok (.value a) w') := by
  rw [run_makeMap]
  exact h _ ⟨(Below.refl _ w).alloc (Nat.le_refl _) _, Nat.le_refl _, [], blk_new _ _, rfl⟩
set_option maxRecDepth 100000 in
theorem step_insert {o : Oper} {a : Act} {n : Act → World → Prop} {Q : Exit → Act → World → Prop} {w W : World} {l : List (UInt8 × Ws)} (c : UInt8) (ws : Ws) (hW : MapW 67 w w.heap.size l W) (hc : findW c l = none)
    (h : ∀ W', MapW 67 w w.heap.size (l ++ [(c, ws)]) W' → Oper.upon Tryz.prog o a n Q (.ok .skip W')) :
    Oper.upon Tryz.prog o a n Q (((Instr.mapUpdate 64 (.map (some w.heap.size)) (.int .u8 (c.toNat : Int)) (wval W.heap.size ws)).run Tryz.prog (W.alloc (.cells (wcells ws).toArray 67 (0, 0)))).andThen fun _ w' => .ok .skip w') := by
  obtain ⟨W', h1, h2⟩ := hW.insert und63 und5 ws hc
  rw [h2]
  exact h W' h1

def WordsPost (w : World) (e : Ending) (w' : World) : Prop :=
  ∃ r, e = .returned (.map (some r)) ∧ Below w.heap.size w w' ∧ ∀ c : UInt8, ∃ v, (Instr.lookup 64 (.map (some r)) (.int .u8 (c.toNat : Int)) false).run Tryz.prog w' = .ok v w' ∧ WordsV 67 v (wordsAt c) w'
theorem words_post {w W : World} (h : MapW 67 w w.heap.size tbl W) : WordsPost w (.returned (.map (some w.heap.size))) W :=
  ⟨_, rfl, h.1, fun c => h.look und63 und5 und62 zero62 c⟩

set_option maxRecDepth 100000 in
set_option maxHeartbeats 4000000 in
theorem words_any (w : World) : Calls Tryz.prog 29 #[] w (WordsPost w) := by
  go_enter Tryz.func29, Tryz.ntmps29
  go_wp2_with fail
  refine step_make ?_
  intro W0 h0
  go_wp2_with fail
  refine step_insert 99 [([99, 111, 112, 121], [116]), ([99, 111], [116])] h0 (by decide) ?_
  clear h0
  intro W1 h1
  go_wp2_with fail
  refine step_insert 100 [([100, 101, 108, 101, 116, 101], [100]), ([100], [100])] h1 (by decide) ?_
  clear h1
  intro W2 h2
  go_wp2_with fail
  refine step_insert 101 [([101, 97, 114, 108, 105, 101, 114], [101, 97, 114, 108, 105, 101, 114])] h2 (by decide) ?_
  clear h2
  intro W3 h3
  go_wp2_with fail
  refine step_insert 103 [([103, 108, 111, 98, 97, 108], [103]), ([103], [103])] h3 (by decide) ?_
  clear h3
  intro W4 h4
  go_wp2_with fail
  refine step_insert 106 [([106, 111, 105, 110], [106]), ([106], [106])] h4 (by decide) ?_
  clear h4
  intro W5 h5
  go_wp2_with fail
  refine step_insert 107 [([107], [107])] h5 (by decide) ?_
  clear h5
  intro W6 h6
  go_wp2_with fail
  refine step_insert 108 [([108, 97, 116, 101, 114], [108, 97, 116, 101, 114])] h6 (by decide) ?_
  clear h6
  intro W7 h7
  go_wp2_with fail
  refine step_insert 109 [([109, 111, 118, 101], [109]), ([109, 97, 114, 107], [107]), ([109], [109])] h7 (by decide) ?_
  clear h7
  intro W8 h8
  go_wp2_with fail
  refine step_insert 110 [([110, 111, 114, 109, 97, 108], [110, 111, 114, 109]), ([110, 111, 114, 109], [110, 111, 114, 109])] h8 (by decide) ?_
  clear h8
  intro W9 h9
  go_wp2_with fail
  refine step_insert 112 [([112, 114, 105, 110, 116], [112]), ([112, 117, 116], [112, 117]), ([112, 117], [112, 117]), ([112], [112])] h9 (by decide) ?_
  clear h9
  intro W10 h10
  go_wp2_with fail
  refine step_insert 114 [([114, 101, 100, 111], [114, 101, 100]), ([114, 101, 100], [114, 101, 100])] h10 (by decide) ?_
  clear h10
  intro W11 h11
  go_wp2_with fail
  refine step_insert 115 [([115, 117, 98, 115, 116, 105, 116, 117, 116, 101], [115]), ([115], [115])] h11 (by decide) ?_
  clear h11
  intro W12 h12
  go_wp2_with fail
  refine step_insert 116 [([116], [116])] h12 (by decide) ?_
  clear h12
  intro W13 h13
  go_wp2_with fail
  refine step_insert 117 [([117, 110, 100, 111], [117]), ([117], [117])] h13 (by decide) ?_
  clear h13
  intro W14 h14
  go_wp2_with fail
  refine step_insert 118 [([118, 103, 108, 111, 98, 97, 108], [118]), ([118], [118])] h14 (by decide) ?_
  clear h14
  intro W15 h15
  go_wp2_with fail
  refine step_insert 121 [([121, 97, 110, 107], [121]), ([121], [121])] h15 (by decide) ?_
  clear h15
  intro W16 h16
  go_wp2_with fail
  go_ret
  exact words_post h16
end Go.Proofs.YthajagmccaaanaaGreatDoor
