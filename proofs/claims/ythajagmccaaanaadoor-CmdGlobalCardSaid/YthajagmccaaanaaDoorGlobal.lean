/- emendatorlaw15.CmdGlobal: the walk. -/
import Derived.Test.YthajagmccaaanaaDoorRv
namespace Go.Proofs.YthajagmccaaanaaDoor
open Go.RowKit

def argOf : Bs → Bs
  | [] => [112]
  | y :: r => y :: r
theorem body_g (v : Value) (s : Bs) : bodyL v [] (103 :: 47 :: 120 :: 47 :: s) = .ok (⟨v, [103], false, 0, -1, .slice none 0 0, [120], [], [], argOf s⟩, [], []) := by cases s <;> rfl
theorem body_gb (v : Value) (s : Bs) : bodyL v [] (103 :: 33 :: 47 :: 120 :: 47 :: s) = .ok (⟨v, [103], true, 0, -1, .slice none 0 0, [120], [], [], argOf s⟩, [], []) := by cases s <;> rfl
theorem body_v (v : Value) (s : Bs) : bodyL v [] (118 :: 47 :: 120 :: 47 :: s) = .ok (⟨v, [118], false, 0, -1, .slice none 0 0, [120], [], [], argOf s⟩, [], []) := by cases s <;> rfl

theorem tail_g (v : Value) (s : Bs) (h : (103 :: 47 :: 120 :: 47 :: s).length ≤ 1000) : parseR v (103 :: 47 :: 120 :: 47 :: s) = .ok (⟨v, [103], false, 0, -1, .slice none 0 0, [120], [], [], argOf s⟩, [], []) := by
  rw [parseR_short h, rangeL_letter _ _ rfl]
  exact body_g v s
theorem tail_gb (v : Value) (s : Bs) (h : (103 :: 33 :: 47 :: 120 :: 47 :: s).length ≤ 1000) : parseR v (103 :: 33 :: 47 :: 120 :: 47 :: s) = .ok (⟨v, [103], true, 0, -1, .slice none 0 0, [120], [], [], argOf s⟩, [], []) := by
  rw [parseR_short h, rangeL_letter _ _ rfl]
  exact body_gb v s
theorem tail_v (v : Value) (s : Bs) (h : (118 :: 47 :: 120 :: 47 :: s).length ≤ 1000) : parseR v (118 :: 47 :: 120 :: 47 :: s) = .ok (⟨v, [118], false, 0, -1, .slice none 0 0, [120], [], [], argOf s⟩, [], []) := by
  rw [parseR_short h, rangeL_letter _ _ rfl]
  exact body_v v s

theorem cat3 (a b c d : Bs) (h : a ++ b ++ c = d) : ((⟨a.toArray⟩ : ByteArray) ++ ⟨b.toArray⟩ ++ ⟨c.toArray⟩) = ⟨d.toArray⟩ := by
  subst h
  apply ByteArray.ext
  simp

set_option maxRecDepth 100000 in
set_option maxHeartbeats 4000000 in
theorem glob_g0 (w : World) (hk : Kn w) : Calls Tryd.prog 8 #[.string ⟨([]).toArray⟩, .bool false, .bool false] w fun e w' => e = .returned (.bool true) ∧ Below w.heap.size w w' := by
  go_enter Tryd.func8, Tryd.ntmps8
  go_wp2_with fail
  refine (known_any w hk).mono ?_
  rintro e w1 ⟨rfl, hb⟩
  have hk1 := hk.below hb
  have hsz := hb.size
  have hcat := cat3 [103] [47, 120, 47] ([]) (103 :: 47 :: 120 :: 47 :: []) rfl
  have hlen : (103 :: 47 :: 120 :: 47 :: [] : Bs).length ≤ 1000 := by decide
  have hp : ∀ v, parseR v (103 :: 47 :: 120 :: 47 :: []) = .ok (⟨v, [103], false, 0, -1, .slice none 0 0, [120], [], [], [112]⟩, [], []) := fun v => tail_g v ([]) hlen
  have hq := parse_ok (c := ⟨.nilFunc, [103], false, 0, -1, .slice none 0 0, [120], [], [], [112]⟩) w1 hk1 (by omega) hp
  clear hp hlen
  go_wp2_with fail
  try rw [hcat]
  refine hq.mono ?_
  rintro e w2 ⟨hb2, p, n, p', n', rfl, -, -⟩
  have hsz2 := hb2.size
  simp only [List.length_nil]
  go_wp2_with fail
  refine name_world (Q := fun W => Code.wp _ _ _ _ W) _ fun W hW => ?_
  have hc : CB w2.heap.size ⟨.slice p 0 n, [103], false, 0, -1, .slice p' 0 n', [120], [], [], [112]⟩ W := by rw [hW]; exact blk_new _ _
  have hB : Below w.heap.size w W := by rw [hW]; exact (hb.trans (hb2.mono hsz)).alloc (by omega) _
  clear hW
  obtain ⟨x0, x1, x2, x3, x4, x5, x6, x7, x8, x9⟩ := ten_cells hc
  simp only [] at x0 x1 x2 x3 x4 x5 x6 x7 x8 x9
  have hlt := lt_of_blk hc
  have hszW := hB.size
  refine wp_region_after_all (by kernel_rfl) (by kernel_rfl) ?_
  repeat (go_big_quiet_step ((fail)))
  refine wpQuiet_nil ?_
  intro _ hu
  obtain ⟨u, hu'⟩ := hu
  subst hu'
  have hB2 : Below w.heap.size w u.w := hB.trans (u.h.below hszW (fun _ _ c => c))
  go_wp2_with fail
  go_ret
  refine ⟨bstr ?_, hB2⟩
  rw [ByteArray.toList_eq]
  rfl

set_option maxRecDepth 100000 in
set_option maxHeartbeats 4000000 in
theorem glob_gb0 (w : World) (hk : Kn w) : Calls Tryd.prog 8 #[.string ⟨([]).toArray⟩, .bool false, .bool true] w fun e w' => e = .returned (.bool true) ∧ Below w.heap.size w w' := by
  go_enter Tryd.func8, Tryd.ntmps8
  go_wp2_with fail
  refine (known_any w hk).mono ?_
  rintro e w1 ⟨rfl, hb⟩
  have hk1 := hk.below hb
  have hsz := hb.size
  have hcat := cat3 [103, 33] [47, 120, 47] ([]) (103 :: 33 :: 47 :: 120 :: 47 :: []) rfl
  have hlen : (103 :: 33 :: 47 :: 120 :: 47 :: [] : Bs).length ≤ 1000 := by decide
  have hp : ∀ v, parseR v (103 :: 33 :: 47 :: 120 :: 47 :: []) = .ok (⟨v, [103], true, 0, -1, .slice none 0 0, [120], [], [], [112]⟩, [], []) := fun v => tail_gb v ([]) hlen
  have hq := parse_ok (c := ⟨.nilFunc, [103], true, 0, -1, .slice none 0 0, [120], [], [], [112]⟩) w1 hk1 (by omega) hp
  clear hp hlen
  go_wp2_with fail
  try rw [hcat]
  refine hq.mono ?_
  rintro e w2 ⟨hb2, p, n, p', n', rfl, -, -⟩
  have hsz2 := hb2.size
  simp only [List.length_nil]
  go_wp2_with fail
  refine name_world (Q := fun W => Code.wp _ _ _ _ W) _ fun W hW => ?_
  have hc : CB w2.heap.size ⟨.slice p 0 n, [103], true, 0, -1, .slice p' 0 n', [120], [], [], [112]⟩ W := by rw [hW]; exact blk_new _ _
  have hB : Below w.heap.size w W := by rw [hW]; exact (hb.trans (hb2.mono hsz)).alloc (by omega) _
  clear hW
  obtain ⟨x0, x1, x2, x3, x4, x5, x6, x7, x8, x9⟩ := ten_cells hc
  simp only [] at x0 x1 x2 x3 x4 x5 x6 x7 x8 x9
  have hlt := lt_of_blk hc
  have hszW := hB.size
  refine wp_region_after_all (by kernel_rfl) (by kernel_rfl) ?_
  repeat (go_big_quiet_step ((fail)))
  refine wpQuiet_nil ?_
  intro _ hu
  obtain ⟨u, hu'⟩ := hu
  subst hu'
  have hB2 : Below w.heap.size w u.w := hB.trans (u.h.below hszW (fun _ _ c => c))
  go_wp2_with fail
  go_ret
  refine ⟨bstr ?_, hB2⟩
  rw [ByteArray.toList_eq]
  rfl

set_option maxRecDepth 100000 in
set_option maxHeartbeats 4000000 in
theorem glob_v0 (w : World) (hk : Kn w) : Calls Tryd.prog 8 #[.string ⟨([]).toArray⟩, .bool true, .bool false] w fun e w' => e = .returned (.bool true) ∧ Below w.heap.size w w' := by
  go_enter Tryd.func8, Tryd.ntmps8
  go_wp2_with fail
  refine (known_any w hk).mono ?_
  rintro e w1 ⟨rfl, hb⟩
  have hk1 := hk.below hb
  have hsz := hb.size
  have hcat := cat3 [118] [47, 120, 47] ([]) (118 :: 47 :: 120 :: 47 :: []) rfl
  have hlen : (118 :: 47 :: 120 :: 47 :: [] : Bs).length ≤ 1000 := by decide
  have hp : ∀ v, parseR v (118 :: 47 :: 120 :: 47 :: []) = .ok (⟨v, [118], false, 0, -1, .slice none 0 0, [120], [], [], [112]⟩, [], []) := fun v => tail_v v ([]) hlen
  have hq := parse_ok (c := ⟨.nilFunc, [118], false, 0, -1, .slice none 0 0, [120], [], [], [112]⟩) w1 hk1 (by omega) hp
  clear hp hlen
  go_wp2_with fail
  try rw [hcat]
  refine hq.mono ?_
  rintro e w2 ⟨hb2, p, n, p', n', rfl, -, -⟩
  have hsz2 := hb2.size
  simp only [List.length_nil]
  go_wp2_with fail
  refine name_world (Q := fun W => Code.wp _ _ _ _ W) _ fun W hW => ?_
  have hc : CB w2.heap.size ⟨.slice p 0 n, [118], false, 0, -1, .slice p' 0 n', [120], [], [], [112]⟩ W := by rw [hW]; exact blk_new _ _
  have hB : Below w.heap.size w W := by rw [hW]; exact (hb.trans (hb2.mono hsz)).alloc (by omega) _
  clear hW
  obtain ⟨x0, x1, x2, x3, x4, x5, x6, x7, x8, x9⟩ := ten_cells hc
  simp only [] at x0 x1 x2 x3 x4 x5 x6 x7 x8 x9
  have hlt := lt_of_blk hc
  have hszW := hB.size
  refine wp_region_after_all (by kernel_rfl) (by kernel_rfl) ?_
  repeat (go_big_quiet_step ((fail)))
  refine wpQuiet_nil ?_
  intro _ hu
  obtain ⟨u, hu'⟩ := hu
  subst hu'
  have hB2 : Below w.heap.size w u.w := hB.trans (u.h.below hszW (fun _ _ c => c))
  go_wp2_with fail
  go_ret
  refine ⟨bstr ?_, hB2⟩
  rw [ByteArray.toList_eq]
  rfl

set_option maxRecDepth 100000 in
set_option maxHeartbeats 4000000 in
theorem glob_vb0 (w : World) (hk : Kn w) : Calls Tryd.prog 8 #[.string ⟨([]).toArray⟩, .bool true, .bool true] w fun e w' => e = .returned (.bool true) ∧ Below w.heap.size w w' := by
  go_enter Tryd.func8, Tryd.ntmps8
  go_wp2_with fail
  refine (known_any w hk).mono ?_
  rintro e w1 ⟨rfl, hb⟩
  have hk1 := hk.below hb
  have hsz := hb.size
  have hcat := cat3 [118] [47, 120, 47] ([]) (118 :: 47 :: 120 :: 47 :: []) rfl
  have hlen : (118 :: 47 :: 120 :: 47 :: [] : Bs).length ≤ 1000 := by decide
  have hp : ∀ v, parseR v (118 :: 47 :: 120 :: 47 :: []) = .ok (⟨v, [118], false, 0, -1, .slice none 0 0, [120], [], [], [112]⟩, [], []) := fun v => tail_v v ([]) hlen
  have hq := parse_ok (c := ⟨.nilFunc, [118], false, 0, -1, .slice none 0 0, [120], [], [], [112]⟩) w1 hk1 (by omega) hp
  clear hp hlen
  go_wp2_with fail
  try rw [hcat]
  refine hq.mono ?_
  rintro e w2 ⟨hb2, p, n, p', n', rfl, -, -⟩
  have hsz2 := hb2.size
  simp only [List.length_nil]
  go_wp2_with fail
  refine name_world (Q := fun W => Code.wp _ _ _ _ W) _ fun W hW => ?_
  have hc : CB w2.heap.size ⟨.slice p 0 n, [118], false, 0, -1, .slice p' 0 n', [120], [], [], [112]⟩ W := by rw [hW]; exact blk_new _ _
  have hB : Below w.heap.size w W := by rw [hW]; exact (hb.trans (hb2.mono hsz)).alloc (by omega) _
  clear hW
  obtain ⟨x0, x1, x2, x3, x4, x5, x6, x7, x8, x9⟩ := ten_cells hc
  simp only [] at x0 x1 x2 x3 x4 x5 x6 x7 x8 x9
  have hlt := lt_of_blk hc
  have hszW := hB.size
  refine wp_region_after_all (by kernel_rfl) (by kernel_rfl) ?_
  repeat (go_big_quiet_step ((fail)))
  refine wpQuiet_nil ?_
  intro _ hu
  obtain ⟨u, hu'⟩ := hu
  subst hu'
  have hB2 : Below w.heap.size w u.w := hB.trans (u.h.below hszW (fun _ _ c => c))
  go_wp2_with fail
  go_ret
  refine ⟨bstr ?_, hB2⟩
  rw [ByteArray.toList_eq]
  rfl

set_option maxRecDepth 100000 in
set_option maxHeartbeats 4000000 in
theorem glob_g1 (w : World) (hk : Kn w) (y : UInt8) (r : Bs) (hl : (y :: r).length ≤ 500) : Calls Tryd.prog 8 #[.string ⟨(y :: r).toArray⟩, .bool false, .bool false] w fun e w' => e = .returned (.bool true) ∧ Below w.heap.size w w' := by
  have hl2 : r.length + 1 ≤ 500 := by simpa using hl
  go_enter Tryd.func8, Tryd.ntmps8
  go_wp2_with fail
  refine (known_any w hk).mono ?_
  rintro e w1 ⟨rfl, hb⟩
  have hk1 := hk.below hb
  have hsz := hb.size
  have hcat := cat3 [103] [47, 120, 47] (y :: r) (103 :: 47 :: 120 :: 47 :: y :: r) rfl
  have hlen : (103 :: 47 :: 120 :: 47 :: y :: r : Bs).length ≤ 1000 := by simp at hl ⊢; omega
  have hp : ∀ v, parseR v (103 :: 47 :: 120 :: 47 :: y :: r) = .ok (⟨v, [103], false, 0, -1, .slice none 0 0, [120], [], [], y :: r⟩, [], []) := fun v => tail_g v (y :: r) hlen
  have hq := parse_ok (c := ⟨.nilFunc, [103], false, 0, -1, .slice none 0 0, [120], [], [], y :: r⟩) w1 hk1 (by omega) hp
  clear hp hlen
  go_wp2_with fail
  try rw [hcat]
  refine hq.mono ?_
  rintro e w2 ⟨hb2, p, n, p', n', rfl, -, -⟩
  have hsz2 := hb2.size
  simp only [List.length_nil]
  go_wp2_with fail
  refine name_world (Q := fun W => Code.wp _ _ _ _ W) _ fun W hW => ?_
  have hc : CB w2.heap.size ⟨.slice p 0 n, [103], false, 0, -1, .slice p' 0 n', [120], [], [], y :: r⟩ W := by rw [hW]; exact blk_new _ _
  have hB : Below w.heap.size w W := by rw [hW]; exact (hb.trans (hb2.mono hsz)).alloc (by omega) _
  clear hW
  obtain ⟨x0, x1, x2, x3, x4, x5, x6, x7, x8, x9⟩ := ten_cells hc
  simp only [] at x0 x1 x2 x3 x4 x5 x6 x7 x8 x9
  have hlt := lt_of_blk hc
  have hszW := hB.size
  refine wp_region_after_all (by kernel_rfl) (by kernel_rfl) ?_
  repeat (go_big_quiet_step ((fail)))
  refine wpQuiet_nil ?_
  intro _ hu
  obtain ⟨u, hu'⟩ := hu
  subst hu'
  have hB2 : Below w.heap.size w u.w := hB.trans (u.h.below hszW (fun _ _ c => c))
  go_wp2_with fail
  go_ret
  refine ⟨bstr ?_, hB2⟩
  rw [ByteArray.toList_eq]
  rfl

set_option maxRecDepth 100000 in
set_option maxHeartbeats 4000000 in
theorem glob_gb1 (w : World) (hk : Kn w) (y : UInt8) (r : Bs) (hl : (y :: r).length ≤ 500) : Calls Tryd.prog 8 #[.string ⟨(y :: r).toArray⟩, .bool false, .bool true] w fun e w' => e = .returned (.bool true) ∧ Below w.heap.size w w' := by
  have hl2 : r.length + 1 ≤ 500 := by simpa using hl
  go_enter Tryd.func8, Tryd.ntmps8
  go_wp2_with fail
  refine (known_any w hk).mono ?_
  rintro e w1 ⟨rfl, hb⟩
  have hk1 := hk.below hb
  have hsz := hb.size
  have hcat := cat3 [103, 33] [47, 120, 47] (y :: r) (103 :: 33 :: 47 :: 120 :: 47 :: y :: r) rfl
  have hlen : (103 :: 33 :: 47 :: 120 :: 47 :: y :: r : Bs).length ≤ 1000 := by simp at hl ⊢; omega
  have hp : ∀ v, parseR v (103 :: 33 :: 47 :: 120 :: 47 :: y :: r) = .ok (⟨v, [103], true, 0, -1, .slice none 0 0, [120], [], [], y :: r⟩, [], []) := fun v => tail_gb v (y :: r) hlen
  have hq := parse_ok (c := ⟨.nilFunc, [103], true, 0, -1, .slice none 0 0, [120], [], [], y :: r⟩) w1 hk1 (by omega) hp
  clear hp hlen
  go_wp2_with fail
  try rw [hcat]
  refine hq.mono ?_
  rintro e w2 ⟨hb2, p, n, p', n', rfl, -, -⟩
  have hsz2 := hb2.size
  simp only [List.length_nil]
  go_wp2_with fail
  refine name_world (Q := fun W => Code.wp _ _ _ _ W) _ fun W hW => ?_
  have hc : CB w2.heap.size ⟨.slice p 0 n, [103], true, 0, -1, .slice p' 0 n', [120], [], [], y :: r⟩ W := by rw [hW]; exact blk_new _ _
  have hB : Below w.heap.size w W := by rw [hW]; exact (hb.trans (hb2.mono hsz)).alloc (by omega) _
  clear hW
  obtain ⟨x0, x1, x2, x3, x4, x5, x6, x7, x8, x9⟩ := ten_cells hc
  simp only [] at x0 x1 x2 x3 x4 x5 x6 x7 x8 x9
  have hlt := lt_of_blk hc
  have hszW := hB.size
  refine wp_region_after_all (by kernel_rfl) (by kernel_rfl) ?_
  repeat (go_big_quiet_step ((fail)))
  refine wpQuiet_nil ?_
  intro _ hu
  obtain ⟨u, hu'⟩ := hu
  subst hu'
  have hB2 : Below w.heap.size w u.w := hB.trans (u.h.below hszW (fun _ _ c => c))
  go_wp2_with fail
  go_ret
  refine ⟨bstr ?_, hB2⟩
  rw [ByteArray.toList_eq]
  rfl

set_option maxRecDepth 100000 in
set_option maxHeartbeats 4000000 in
theorem glob_v1 (w : World) (hk : Kn w) (y : UInt8) (r : Bs) (hl : (y :: r).length ≤ 500) : Calls Tryd.prog 8 #[.string ⟨(y :: r).toArray⟩, .bool true, .bool false] w fun e w' => e = .returned (.bool true) ∧ Below w.heap.size w w' := by
  have hl2 : r.length + 1 ≤ 500 := by simpa using hl
  go_enter Tryd.func8, Tryd.ntmps8
  go_wp2_with fail
  refine (known_any w hk).mono ?_
  rintro e w1 ⟨rfl, hb⟩
  have hk1 := hk.below hb
  have hsz := hb.size
  have hcat := cat3 [118] [47, 120, 47] (y :: r) (118 :: 47 :: 120 :: 47 :: y :: r) rfl
  have hlen : (118 :: 47 :: 120 :: 47 :: y :: r : Bs).length ≤ 1000 := by simp at hl ⊢; omega
  have hp : ∀ v, parseR v (118 :: 47 :: 120 :: 47 :: y :: r) = .ok (⟨v, [118], false, 0, -1, .slice none 0 0, [120], [], [], y :: r⟩, [], []) := fun v => tail_v v (y :: r) hlen
  have hq := parse_ok (c := ⟨.nilFunc, [118], false, 0, -1, .slice none 0 0, [120], [], [], y :: r⟩) w1 hk1 (by omega) hp
  clear hp hlen
  go_wp2_with fail
  try rw [hcat]
  refine hq.mono ?_
  rintro e w2 ⟨hb2, p, n, p', n', rfl, -, -⟩
  have hsz2 := hb2.size
  simp only [List.length_nil]
  go_wp2_with fail
  refine name_world (Q := fun W => Code.wp _ _ _ _ W) _ fun W hW => ?_
  have hc : CB w2.heap.size ⟨.slice p 0 n, [118], false, 0, -1, .slice p' 0 n', [120], [], [], y :: r⟩ W := by rw [hW]; exact blk_new _ _
  have hB : Below w.heap.size w W := by rw [hW]; exact (hb.trans (hb2.mono hsz)).alloc (by omega) _
  clear hW
  obtain ⟨x0, x1, x2, x3, x4, x5, x6, x7, x8, x9⟩ := ten_cells hc
  simp only [] at x0 x1 x2 x3 x4 x5 x6 x7 x8 x9
  have hlt := lt_of_blk hc
  have hszW := hB.size
  refine wp_region_after_all (by kernel_rfl) (by kernel_rfl) ?_
  repeat (go_big_quiet_step ((fail)))
  refine wpQuiet_nil ?_
  intro _ hu
  obtain ⟨u, hu'⟩ := hu
  subst hu'
  have hB2 : Below w.heap.size w u.w := hB.trans (u.h.below hszW (fun _ _ c => c))
  go_wp2_with fail
  go_ret
  refine ⟨bstr ?_, hB2⟩
  rw [ByteArray.toList_eq]
  rfl

set_option maxRecDepth 100000 in
set_option maxHeartbeats 4000000 in
theorem glob_vb1 (w : World) (hk : Kn w) (y : UInt8) (r : Bs) (hl : (y :: r).length ≤ 500) : Calls Tryd.prog 8 #[.string ⟨(y :: r).toArray⟩, .bool true, .bool true] w fun e w' => e = .returned (.bool true) ∧ Below w.heap.size w w' := by
  have hl2 : r.length + 1 ≤ 500 := by simpa using hl
  go_enter Tryd.func8, Tryd.ntmps8
  go_wp2_with fail
  refine (known_any w hk).mono ?_
  rintro e w1 ⟨rfl, hb⟩
  have hk1 := hk.below hb
  have hsz := hb.size
  have hcat := cat3 [118] [47, 120, 47] (y :: r) (118 :: 47 :: 120 :: 47 :: y :: r) rfl
  have hlen : (118 :: 47 :: 120 :: 47 :: y :: r : Bs).length ≤ 1000 := by simp at hl ⊢; omega
  have hp : ∀ v, parseR v (118 :: 47 :: 120 :: 47 :: y :: r) = .ok (⟨v, [118], false, 0, -1, .slice none 0 0, [120], [], [], y :: r⟩, [], []) := fun v => tail_v v (y :: r) hlen
  have hq := parse_ok (c := ⟨.nilFunc, [118], false, 0, -1, .slice none 0 0, [120], [], [], y :: r⟩) w1 hk1 (by omega) hp
  clear hp hlen
  go_wp2_with fail
  try rw [hcat]
  refine hq.mono ?_
  rintro e w2 ⟨hb2, p, n, p', n', rfl, -, -⟩
  have hsz2 := hb2.size
  simp only [List.length_nil]
  go_wp2_with fail
  refine name_world (Q := fun W => Code.wp _ _ _ _ W) _ fun W hW => ?_
  have hc : CB w2.heap.size ⟨.slice p 0 n, [118], false, 0, -1, .slice p' 0 n', [120], [], [], y :: r⟩ W := by rw [hW]; exact blk_new _ _
  have hB : Below w.heap.size w W := by rw [hW]; exact (hb.trans (hb2.mono hsz)).alloc (by omega) _
  clear hW
  obtain ⟨x0, x1, x2, x3, x4, x5, x6, x7, x8, x9⟩ := ten_cells hc
  simp only [] at x0 x1 x2 x3 x4 x5 x6 x7 x8 x9
  have hlt := lt_of_blk hc
  have hszW := hB.size
  refine wp_region_after_all (by kernel_rfl) (by kernel_rfl) ?_
  repeat (go_big_quiet_step ((fail)))
  refine wpQuiet_nil ?_
  intro _ hu
  obtain ⟨u, hu'⟩ := hu
  subst hu'
  have hB2 : Below w.heap.size w u.w := hB.trans (u.h.below hszW (fun _ _ c => c))
  go_wp2_with fail
  go_ret
  refine ⟨bstr ?_, hB2⟩
  rw [ByteArray.toList_eq]
  rfl

set_option maxHeartbeats 4000000 in
theorem globalLaw_any (l : Bs) (vb bang : Bool) (w : World) (hk : Kn w) : Calls Tryd.prog 8 #[.string ⟨l.toArray⟩, .bool vb, .bool bang] w fun e w' => e = .returned (.bool true) ∧ Below w.heap.size w w' := by
  by_cases hl : 500 < l.length
  · go_enter Tryd.func8, Tryd.ntmps8
    go_wp2_with fail
    refine (known_any w hk).mono ?_
    rintro e w1 ⟨rfl, hb⟩
    go_wp2_with fail
    go_ret
    exact ⟨rfl, hb⟩
  · have hl' : l.length ≤ 500 := by omega
    clear hl
    rcases l with _ | ⟨y, r⟩ <;> cases vb <;> cases bang
    · exact glob_g0 w hk
    · exact glob_gb0 w hk
    · exact glob_v0 w hk
    · exact glob_vb0 w hk
    · exact glob_g1 w hk y r hl'
    · exact glob_gb1 w hk y r hl'
    · exact glob_v1 w hk y r hl'
    · exact glob_vb1 w hk y r hl'
end Go.Proofs.YthajagmccaaanaaDoor
