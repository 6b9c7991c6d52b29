/- emendatorref15.Reader.name: the walk. -/
import Derived.Test.YthajagmccaaanaaGreatDoorRMoreB
import Derived.Test.YthajagmccaaanaaGreatDoorRNameLaw
namespace Go.Proofs.YthajagmccaaanaaGreatDoor
open Go.RowKit

theorem has_eq (l p : Bs) : (l.take p.length == p) = Lib.hasPrefix l p := by
  unfold Lib.hasPrefix
  rw [Bool.eq_iff_iff, beq_iff_eq, List.isPrefixOf_iff_prefix, List.prefix_iff_eq_take]
  exact eq_comm
set_option maxRecDepth 100000 in
set_option maxHeartbeats 4000000 in
theorem rhas_any (l p : Bs) (w : World) (hl : l.length ≤ 1000) (hp : p.length ≤ 20) : Calls Tryz.prog 45 #[.string ⟨l.toArray⟩, .string ⟨p.toArray⟩] w fun e w' => e = .returned (.bool (Lib.hasPrefix l p)) ∧ w' = w := by
  have hex := ex_take l p.length
  have HE := Lib.hid (has_eq l p)
  by_cases h : p.length ≤ l.length
  · go_enter Tryz.func45, Tryz.ntmps45
    go_wp2_with fail
    go_ret
    exact ⟨ret_bool HE.out, rfl⟩
  · have hf : Lib.hasPrefix l p = false := by
      rw [← HE.out, beq_eq_false_iff_ne]
      intro e
      have := congrArg List.length e
      simp at this
      omega
    rw [hf]
    clear hf
    go_enter Tryz.func45, Tryz.ntmps45
    go_wp2_with fail
    go_ret
    exact ⟨rfl, rfl⟩
theorem lw_at (i : Nat) (hi : i < 31) : (#[.string ⟨#[100]⟩, .string ⟨#[100, 101, 108, 101, 116, 101]⟩, .string ⟨#[109]⟩, .string ⟨#[109, 111, 118, 101]⟩, .string ⟨#[116]⟩, .string ⟨#[99, 111]⟩, .string ⟨#[99, 111, 112, 121]⟩, .string ⟨#[106]⟩, .string ⟨#[106, 111, 105, 110]⟩, .string ⟨#[121]⟩, .string ⟨#[121, 97, 110, 107]⟩, .string ⟨#[112, 117]⟩, .string ⟨#[112, 117, 116]⟩, .string ⟨#[107]⟩, .string ⟨#[109, 97, 114, 107]⟩, .string ⟨#[115]⟩, .string ⟨#[115, 117, 98, 115, 116, 105, 116, 117, 116, 101]⟩, .string ⟨#[103]⟩, .string ⟨#[103, 108, 111, 98, 97, 108]⟩, .string ⟨#[118]⟩, .string ⟨#[118, 103, 108, 111, 98, 97, 108]⟩, .string ⟨#[110, 111, 114, 109]⟩, .string ⟨#[110, 111, 114, 109, 97, 108]⟩, .string ⟨#[117]⟩, .string ⟨#[117, 110, 100, 111]⟩, .string ⟨#[114, 101, 100]⟩, .string ⟨#[114, 101, 100, 111]⟩, .string ⟨#[101, 97, 114, 108, 105, 101, 114]⟩, .string ⟨#[108, 97, 116, 101, 114]⟩, .string ⟨#[112]⟩, .string ⟨#[112, 114, 105, 110, 116]⟩] : Array Value)[i]? = some (.string ⟨(LW.getD i []).toArray⟩) := by
  have hc : i = 0 ∨ i = 1 ∨ i = 2 ∨ i = 3 ∨ i = 4 ∨ i = 5 ∨ i = 6 ∨ i = 7 ∨ i = 8 ∨ i = 9 ∨ i = 10 ∨ i = 11 ∨ i = 12 ∨ i = 13 ∨ i = 14 ∨ i = 15 ∨ i = 16 ∨ i = 17 ∨ i = 18 ∨ i = 19 ∨ i = 20 ∨ i = 21 ∨ i = 22 ∨ i = 23 ∨ i = 24 ∨ i = 25 ∨ i = 26 ∨ i = 27 ∨ i = 28 ∨ i = 29 ∨ i = 30 := by omega
  rcases hc with rfl | rfl | rfl | rfl | rfl | rfl | rfl | rfl | rfl | rfl | rfl | rfl | rfl | rfl | rfl | rfl | rfl | rfl | rfl | rfl | rfl | rfl | rfl | rfl | rfl | rfl | rfl | rfl | rfl | rfl | rfl
  all_goals rfl
theorem sw_at (i : Nat) (hi : i < 31) : (#[.string ⟨#[100]⟩, .string ⟨#[100]⟩, .string ⟨#[109]⟩, .string ⟨#[109]⟩, .string ⟨#[116]⟩, .string ⟨#[116]⟩, .string ⟨#[116]⟩, .string ⟨#[106]⟩, .string ⟨#[106]⟩, .string ⟨#[121]⟩, .string ⟨#[121]⟩, .string ⟨#[112, 117]⟩, .string ⟨#[112, 117]⟩, .string ⟨#[107]⟩, .string ⟨#[107]⟩, .string ⟨#[115]⟩, .string ⟨#[115]⟩, .string ⟨#[103]⟩, .string ⟨#[103]⟩, .string ⟨#[118]⟩, .string ⟨#[118]⟩, .string ⟨#[110, 111, 114, 109]⟩, .string ⟨#[110, 111, 114, 109]⟩, .string ⟨#[117]⟩, .string ⟨#[117]⟩, .string ⟨#[114, 101, 100]⟩, .string ⟨#[114, 101, 100]⟩, .string ⟨#[101, 97, 114, 108, 105, 101, 114]⟩, .string ⟨#[108, 97, 116, 101, 114]⟩, .string ⟨#[112]⟩, .string ⟨#[112]⟩] : Array Value)[i]? = some (.string ⟨(SW.getD i []).toArray⟩) := by
  have hc : i = 0 ∨ i = 1 ∨ i = 2 ∨ i = 3 ∨ i = 4 ∨ i = 5 ∨ i = 6 ∨ i = 7 ∨ i = 8 ∨ i = 9 ∨ i = 10 ∨ i = 11 ∨ i = 12 ∨ i = 13 ∨ i = 14 ∨ i = 15 ∨ i = 16 ∨ i = 17 ∨ i = 18 ∨ i = 19 ∨ i = 20 ∨ i = 21 ∨ i = 22 ∨ i = 23 ∨ i = 24 ∨ i = 25 ∨ i = 26 ∨ i = 27 ∨ i = 28 ∨ i = 29 ∨ i = 30 := by omega
  rcases hc with rfl | rfl | rfl | rfl | rfl | rfl | rfl | rfl | rfl | rfl | rfl | rfl | rfl | rfl | rfl | rfl | rfl | rfl | rfl | rfl | rfl | rfl | rfl | rfl | rfl | rfl | rfl | rfl | rfl | rfl | rfl
  all_goals rfl
theorem lw_len (i : Nat) (hi : i < 31) : (LW.getD i []).length ≤ 10 := by
  have : ∀ j : Fin 31, (LW.getD j.val []).length ≤ 10 := by decide
  exact this ⟨i, hi⟩
theorem sw_len (i : Nat) (hi : i < 31) : (SW.getD i []).length ≤ 10 := by
  have : ∀ j : Fin 31, (SW.getD j.val []).length ≤ 10 := by decide
  exact this ⟨i, hi⟩
set_option maxRecDepth 100000 in
set_option maxHeartbeats 4000000 in
theorem rwords_any (w : World) : Calls Tryz.prog 47 #[] w fun e w' => e = .returned (.tuple #[.slice (some ⟨w.heap.size, 0, none⟩) 31 31, .slice (some ⟨w.heap.size + 1, 0, none⟩) 31 31]) ∧ Below w.heap.size w w' ∧ w.heap.size + 1 < w'.heap.size ∧
      (∀ i, i < 31 → w'.cell? ⟨w.heap.size, i, none⟩ = some (.string ⟨(LW.getD i []).toArray⟩)) ∧ (∀ i, i < 31 → w'.cell? ⟨w.heap.size + 1, i, none⟩ = some (.string ⟨(SW.getD i []).toArray⟩)) := by
  go_enter Tryz.func47, Tryz.ntmps47
  go_wp2_with fail
  refine bodyPost_ret (results_tmp2 rfl _ _ _) rfl ?_
  refine ⟨rfl, ((Below.refl _ w).alloc (Nat.le_refl _) _).alloc (by simp) _, by simp, ?_, ?_⟩
  · intro i hi
    rw [Lib.cell_of_heap (blk_alloc (blk_new w _) _)]
    exact lw_at i hi
  · intro i hi
    have := blk_new (w.alloc (.cells #[.string ⟨#[100]⟩, .string ⟨#[100, 101, 108, 101, 116, 101]⟩, .string ⟨#[109]⟩, .string ⟨#[109, 111, 118, 101]⟩, .string ⟨#[116]⟩, .string ⟨#[99, 111]⟩, .string ⟨#[99, 111, 112, 121]⟩, .string ⟨#[106]⟩, .string ⟨#[106, 111, 105, 110]⟩, .string ⟨#[121]⟩, .string ⟨#[121, 97, 110, 107]⟩, .string ⟨#[112, 117]⟩, .string ⟨#[112, 117, 116]⟩, .string ⟨#[107]⟩, .string ⟨#[109, 97, 114, 107]⟩, .string ⟨#[115]⟩, .string ⟨#[115, 117, 98, 115, 116, 105, 116, 117, 116, 101]⟩, .string ⟨#[103]⟩, .string ⟨#[103, 108, 111, 98, 97, 108]⟩, .string ⟨#[118]⟩, .string ⟨#[118, 103, 108, 111, 98, 97, 108]⟩, .string ⟨#[110, 111, 114, 109]⟩, .string ⟨#[110, 111, 114, 109, 97, 108]⟩, .string ⟨#[117]⟩, .string ⟨#[117, 110, 100, 111]⟩, .string ⟨#[114, 101, 100]⟩, .string ⟨#[114, 101, 100, 111]⟩, .string ⟨#[101, 97, 114, 108, 105, 101, 114]⟩, .string ⟨#[108, 97, 116, 101, 114]⟩, .string ⟨#[112]⟩, .string ⟨#[112, 114, 105, 110, 116]⟩] 9 (0, 0))) (.cells #[.string ⟨#[100]⟩, .string ⟨#[100]⟩, .string ⟨#[109]⟩, .string ⟨#[109]⟩, .string ⟨#[116]⟩, .string ⟨#[116]⟩, .string ⟨#[116]⟩, .string ⟨#[106]⟩, .string ⟨#[106]⟩, .string ⟨#[121]⟩, .string ⟨#[121]⟩, .string ⟨#[112, 117]⟩, .string ⟨#[112, 117]⟩, .string ⟨#[107]⟩, .string ⟨#[107]⟩, .string ⟨#[115]⟩, .string ⟨#[115]⟩, .string ⟨#[103]⟩, .string ⟨#[103]⟩, .string ⟨#[118]⟩, .string ⟨#[118]⟩, .string ⟨#[110, 111, 114, 109]⟩, .string ⟨#[110, 111, 114, 109]⟩, .string ⟨#[117]⟩, .string ⟨#[117]⟩, .string ⟨#[114, 101, 100]⟩, .string ⟨#[114, 101, 100]⟩, .string ⟨#[101, 97, 114, 108, 105, 101, 114]⟩, .string ⟨#[108, 97, 116, 101, 114]⟩, .string ⟨#[112]⟩, .string ⟨#[112]⟩] 9 (0, 0))
    rw [show (w.alloc (.cells #[.string ⟨#[100]⟩, .string ⟨#[100, 101, 108, 101, 116, 101]⟩, .string ⟨#[109]⟩, .string ⟨#[109, 111, 118, 101]⟩, .string ⟨#[116]⟩, .string ⟨#[99, 111]⟩, .string ⟨#[99, 111, 112, 121]⟩, .string ⟨#[106]⟩, .string ⟨#[106, 111, 105, 110]⟩, .string ⟨#[121]⟩, .string ⟨#[121, 97, 110, 107]⟩, .string ⟨#[112, 117]⟩, .string ⟨#[112, 117, 116]⟩, .string ⟨#[107]⟩, .string ⟨#[109, 97, 114, 107]⟩, .string ⟨#[115]⟩, .string ⟨#[115, 117, 98, 115, 116, 105, 116, 117, 116, 101]⟩, .string ⟨#[103]⟩, .string ⟨#[103, 108, 111, 98, 97, 108]⟩, .string ⟨#[118]⟩, .string ⟨#[118, 103, 108, 111, 98, 97, 108]⟩, .string ⟨#[110, 111, 114, 109]⟩, .string ⟨#[110, 111, 114, 109, 97, 108]⟩, .string ⟨#[117]⟩, .string ⟨#[117, 110, 100, 111]⟩, .string ⟨#[114, 101, 100]⟩, .string ⟨#[114, 101, 100, 111]⟩, .string ⟨#[101, 97, 114, 108, 105, 101, 114]⟩, .string ⟨#[108, 97, 116, 101, 114]⟩, .string ⟨#[112]⟩, .string ⟨#[112, 114, 105, 110, 116]⟩] 9 (0, 0))).heap.size = w.heap.size + 1 by simp] at this
    rw [Lib.cell_of_heap this]
    exact sw_at i hi

set_option maxRecDepth 100000 in
set_option maxHeartbeats 4000000 in
theorem rname_nil (b : Nat) (c : Cm) (w : World) (h : RR b c [] 0 w) :
    Calls Tryz.prog 17 #[.pointer (some ⟨b, 0, none⟩)] w fun e w' => e = .returned (.tuple #[]) ∧ ROr b (nameC c []) 150 w w' := by
  have HH := Lib.hid h
  have c10 := h.c10
  have f10 := h.fz 10
  have c1 := h.c1
  have f1 := h.fz 1
  have c9 := h.c9
  have f9 := h.fz 9
  have hltb := lt_of_blk h
  clear h
  go_enter Tryz.func17, Tryz.ntmps17
  go_wp2_with fail
  trace_state
  refine bodyPost_ret (results_none rfl _ _ _) rfl ?_
  exact ⟨rfl, Mod.refl _ _, HH.out⟩

theorem lead_at (x : UInt8) (l : Bs) : ∀ k, k ≤ l.length → (∀ j (h : j < l.length), j < k → l[j] = x) → (∀ h : k < l.length, l[k] ≠ x) → l.take k = l.takeWhile (· == x) := by
  induction l with
  | nil => intro k _ _ _; simp
  | cons y l ih =>
    intro k hk h1 h2
    rw [List.takeWhile_cons]
    cases k with
    | zero =>
      have := h2 (by simp)
      simp at this
      simp [this]
    | succ k =>
      have h0 := h1 0 (by simp) (by omega)
      simp at h0
      rw [if_pos (by simp [h0]), List.take_succ_cons]
      congr 1
      refine ih k (by simpa using hk) (fun j hj hjk => ?_) (fun h => ?_)
      · have := h1 (j + 1) (by simp; omega) (by omega)
        simpa using this
      · have := h2 (by simp; omega)
        simpa using this

set_option maxRecDepth 100000 in
set_option maxHeartbeats 4000000 in
theorem rname_gt (b : Nat) (c : Cm) (x : UInt8) (t : Bs) (w : World) (h : RR b c (x :: t) 0 w) (hl : (x :: t).length ≤ 1000) (hx : x = 62) (e62 : ((((⟨(x :: t).toArray⟩ : ByteArray)[0]'(head0 x t)).toNat : Int) == 62) = true) :
    Calls Tryz.prog 17 #[.pointer (some ⟨b, 0, none⟩)] w fun e w' => e = .returned (.tuple #[]) ∧ ROr b (nameC c (x :: t)) 150 w w' := by
  have HH := Lib.hid h
  have c10 := h.c10
  have f10 := h.fz 10
  have c1 := h.c1
  have f1 := h.fz 1
  have c9 := h.c9
  have f9 := h.fz 9
  have hltb := lt_of_blk h
  clear h
  have hl2 : t.length + 1 ≤ 1000 := by simpa using hl
  have hex1 : (⟨(x :: t).toArray⟩ : ByteArray).extract 0 1 = ⟨([x] : Bs).toArray⟩ := ex_take (x :: t) 1
  have hnc : nameC c (x :: t) = some ({ c with arg := (x :: t).takeWhile (· == x), name := [x] }, cutL x (x :: t)) := by
    unfold nameC
    simp only
    rw [if_pos (by simp [hx]), List.takeWhile_cons, if_pos (by simp)]
  have HNC := Lib.hid hnc
  clear hnc hx
  go_enter Tryz.func17, Tryz.ntmps17
  go_wp2_with fail
  go_loopg [3] (t.length + 2) (fun g n wr => ∃ k : Nat, t.length + 2 ≤ g + k ∧ k ≤ t.length + 1 ∧ n = .int .i64 (k : Int) ∧ (∀ j (h : j < (x :: t).length), j < k → (x :: t)[j] = x) ∧ wr = w)
  case atStart => exact ⟨0, by omega, by omega, rfl, fun j _ h => absurd h (Nat.not_lt_zero _), rfl⟩
  case round =>
    obtain ⟨k, hgk, hk, rfl, hall, hwr⟩ := hrel
    rw [hwr]
    clear hwr
    have HA := Lib.hid hall
    clear hall
    have hexk := ex_take (x :: t) k
    have hexd : (⟨(x :: t).toArray⟩ : ByteArray).extract k (t.length + 1) = ⟨((x :: t).drop k).toArray⟩ := by
      have := ex_drop (x :: t) k
      rw [List.length_cons] at this
      exact this
    by_cases hlt : k < t.length + 1
    · have hlt' : k < (x :: t).length := by simpa using hlt
      have hat := at_p' (x :: t) k hlt' (ba_lt' hlt')
      by_cases he : (x :: t)[k] = x
      · have e1 : (((⟨(x :: t).toArray⟩ : ByteArray)[k]'(ba_lt' hlt')).toNat : Int) == (((⟨(x :: t).toArray⟩ : ByteArray)[0]'(head0 x t)).toNat : Int) := by rw [hat]; exact eqT' he
        have HE := Lib.hid he
        clear hat he
        go_wp2_with fail
        go_roundg (gk - 1)
        case measure => omega
        case rel =>
          refine ⟨k + 1, by omega, by omega, by go_num, fun j h hj => ?_, rfl⟩
          by_cases hjk : j = k
          · subst hjk; exact HE.out
          · exact HA.out j h (by omega)
      · have e1 : ((((⟨(x :: t).toArray⟩ : ByteArray)[k]'(ba_lt' hlt')).toNat : Int) == (((⟨(x :: t).toArray⟩ : ByteArray)[0]'(head0 x t)).toNat : Int)) = false := by rw [hat]; exact eqF' he
        have HT := Lib.hid (lead_at x (x :: t) k (by simp; omega) HA.out (fun _ => he))
        have HD := Lib.hid (cutL_at x (x :: t) k (by simp; omega) HA.out (fun _ => he))
        clear hat he
        go_wp2_with fail
        refine bodyPost_ret (results_none rfl _ _ _) rfl ?_
        refine ⟨rfl, (((Mod.refl _ w).set1 1 _).set1 9 _).set1 10 _, ?_⟩
        rw [HNC.out, ← HT.out, ← HD.out]
        exact ((HH.out.setName [x]).setArg _).setRest _
    · have HT := Lib.hid (lead_at x (x :: t) k (by simp; omega) HA.out (fun h => absurd h (by simp; omega)))
      have HD := Lib.hid (cutL_at x (x :: t) k (by simp; omega) HA.out (fun h => absurd h (by simp; omega)))
      go_wp2_with fail
      refine bodyPost_ret (results_none rfl _ _ _) rfl ?_
      refine ⟨rfl, (((Mod.refl _ w).set1 1 _).set1 9 _).set1 10 _, ?_⟩
      rw [HNC.out, ← HT.out, ← HD.out]
      exact ((HH.out.setName [x]).setArg _).setRest _

set_option maxRecDepth 100000 in
set_option maxHeartbeats 4000000 in
theorem rname_lt (b : Nat) (c : Cm) (x : UInt8) (t : Bs) (w : World) (h : RR b c (x :: t) 0 w) (hl : (x :: t).length ≤ 1000) (hx : x = 60) (e62 : ((((⟨(x :: t).toArray⟩ : ByteArray)[0]'(head0 x t)).toNat : Int) == 62) = false) (e60 : ((((⟨(x :: t).toArray⟩ : ByteArray)[0]'(head0 x t)).toNat : Int) == 60) = true) :
    Calls Tryz.prog 17 #[.pointer (some ⟨b, 0, none⟩)] w fun e w' => e = .returned (.tuple #[]) ∧ ROr b (nameC c (x :: t)) 150 w w' := by
  have HH := Lib.hid h
  have c10 := h.c10
  have f10 := h.fz 10
  have c1 := h.c1
  have f1 := h.fz 1
  have c9 := h.c9
  have f9 := h.fz 9
  have hltb := lt_of_blk h
  clear h
  have hl2 : t.length + 1 ≤ 1000 := by simpa using hl
  have hex1 : (⟨(x :: t).toArray⟩ : ByteArray).extract 0 1 = ⟨([x] : Bs).toArray⟩ := ex_take (x :: t) 1
  have hnc : nameC c (x :: t) = some ({ c with arg := (x :: t).takeWhile (· == x), name := [x] }, cutL x (x :: t)) := by
    unfold nameC
    simp only
    rw [if_pos (by simp [hx]), List.takeWhile_cons, if_pos (by simp)]
  have HNC := Lib.hid hnc
  clear hnc hx
  go_enter Tryz.func17, Tryz.ntmps17
  go_wp2_with fail
  go_loopg [3] (t.length + 2) (fun g n wr => ∃ k : Nat, t.length + 2 ≤ g + k ∧ k ≤ t.length + 1 ∧ n = .int .i64 (k : Int) ∧ (∀ j (h : j < (x :: t).length), j < k → (x :: t)[j] = x) ∧ wr = w)
  case atStart => exact ⟨0, by omega, by omega, rfl, fun j _ h => absurd h (Nat.not_lt_zero _), rfl⟩
  case round =>
    obtain ⟨k, hgk, hk, rfl, hall, hwr⟩ := hrel
    rw [hwr]
    clear hwr
    have HA := Lib.hid hall
    clear hall
    have hexk := ex_take (x :: t) k
    have hexd : (⟨(x :: t).toArray⟩ : ByteArray).extract k (t.length + 1) = ⟨((x :: t).drop k).toArray⟩ := by
      have := ex_drop (x :: t) k
      rw [List.length_cons] at this
      exact this
    by_cases hlt : k < t.length + 1
    · have hlt' : k < (x :: t).length := by simpa using hlt
      have hat := at_p' (x :: t) k hlt' (ba_lt' hlt')
      by_cases he : (x :: t)[k] = x
      · have e1 : (((⟨(x :: t).toArray⟩ : ByteArray)[k]'(ba_lt' hlt')).toNat : Int) == (((⟨(x :: t).toArray⟩ : ByteArray)[0]'(head0 x t)).toNat : Int) := by rw [hat]; exact eqT' he
        have HE := Lib.hid he
        clear hat he
        go_wp2_with fail
        go_roundg (gk - 1)
        case measure => omega
        case rel =>
          refine ⟨k + 1, by omega, by omega, by go_num, fun j h hj => ?_, rfl⟩
          by_cases hjk : j = k
          · subst hjk; exact HE.out
          · exact HA.out j h (by omega)
      · have e1 : ((((⟨(x :: t).toArray⟩ : ByteArray)[k]'(ba_lt' hlt')).toNat : Int) == (((⟨(x :: t).toArray⟩ : ByteArray)[0]'(head0 x t)).toNat : Int)) = false := by rw [hat]; exact eqF' he
        have HT := Lib.hid (lead_at x (x :: t) k (by simp; omega) HA.out (fun _ => he))
        have HD := Lib.hid (cutL_at x (x :: t) k (by simp; omega) HA.out (fun _ => he))
        clear hat he
        go_wp2_with fail
        refine bodyPost_ret (results_none rfl _ _ _) rfl ?_
        refine ⟨rfl, (((Mod.refl _ w).set1 1 _).set1 9 _).set1 10 _, ?_⟩
        rw [HNC.out, ← HT.out, ← HD.out]
        exact ((HH.out.setName [x]).setArg _).setRest _
    · have HT := Lib.hid (lead_at x (x :: t) k (by simp; omega) HA.out (fun h => absurd h (by simp; omega)))
      have HD := Lib.hid (cutL_at x (x :: t) k (by simp; omega) HA.out (fun h => absurd h (by simp; omega)))
      go_wp2_with fail
      refine bodyPost_ret (results_none rfl _ _ _) rfl ?_
      refine ⟨rfl, (((Mod.refl _ w).set1 1 _).set1 9 _).set1 10 _, ?_⟩
      rw [HNC.out, ← HT.out, ← HD.out]
      exact ((HH.out.setName [x]).setArg _).setRest _

set_option maxRecDepth 100000 in
set_option maxHeartbeats 4000000 in
theorem rname_amp (b : Nat) (c : Cm) (x : UInt8) (t : Bs) (w : World) (h : RR b c (x :: t) 0 w) (hl : (x :: t).length ≤ 1000) (hx : ¬ (x = 62 ∨ x = 60)) (e62 : ((((⟨(x :: t).toArray⟩ : ByteArray)[0]'(head0 x t)).toNat : Int) == 62) = false) (e60 : ((((⟨(x :: t).toArray⟩ : ByteArray)[0]'(head0 x t)).toNat : Int) == 60) = false) (hp : Lib.hasPrefix (x :: t) [38, 38] = true) :
    Calls Tryz.prog 17 #[.pointer (some ⟨b, 0, none⟩)] w fun e w' => e = .returned (.tuple #[]) ∧ ROr b (nameC c (x :: t)) 150 w w' := by
  have HH := Lib.hid h
  have c10 := h.c10
  have f10 := h.fz 10
  have c1 := h.c1
  have f1 := h.fz 1
  have c9 := h.c9
  have f9 := h.fz 9
  have hltb := lt_of_blk h
  clear h
  have hl2 : t.length + 1 ≤ 1000 := by simpa using hl
  have hhas := fun V => rhas_any (x :: t) [38, 38] V hl (by decide)
  rw [hp] at hhas
  have hnc : nameC c (x :: t) = some ({ c with name := [38, 38] }, (x :: t).drop 2) := by
    unfold nameC
    simp only
    rw [if_neg hx, if_pos hp]
  have HNC := Lib.hid hnc
  have h2l : 1 ≤ t.length := by
    rcases t with _ | ⟨y, u⟩
    · rw [hp_cons] at hp
      simp [hp_end] at hp
    · simp
  have hexd : (⟨(x :: t).toArray⟩ : ByteArray).extract 2 (t.length + 1) = ⟨((x :: t).drop 2).toArray⟩ := by
    have := ex_drop (x :: t) 2
    rw [List.length_cons] at this
    exact this
  clear hnc hx hp
  go_enter Tryz.func17, Tryz.ntmps17
  go_wp2_with fail
  refine (hhas w).mono ?_
  rintro e w2 ⟨rfl, hw⟩
  obtain rfl : w = w2 := hw.symm
  go_wp2_with fail
  refine bodyPost_ret (results_none rfl _ _ _) rfl ?_
  refine ⟨rfl, ((Mod.refl _ w).set1 1 _).set1 10 _, ?_⟩
  rw [HNC.out, show List.drop 2 (x :: t) = List.tail t by simp]
  exact (HH.out.setName [38, 38]).setRest _

set_option maxRecDepth 100000 in
set_option maxHeartbeats 4000000 in
theorem rname_one (b : Nat) (c : Cm) (x : UInt8) (t : Bs) (w : World) (h : RR b c (x :: t) 0 w) (hl : (x :: t).length ≤ 1000) (hx : ¬ (x = 62 ∨ x = 60)) (e62 : ((((⟨(x :: t).toArray⟩ : ByteArray)[0]'(head0 x t)).toNat : Int) == 62) = false) (e60 : ((((⟨(x :: t).toArray⟩ : ByteArray)[0]'(head0 x t)).toNat : Int) == 60) = false) (hp : Lib.hasPrefix (x :: t) [38, 38] = false) (hc : ([38, 126, 64, 61] : Bs).contains x = true) :
    Calls Tryz.prog 17 #[.pointer (some ⟨b, 0, none⟩)] w fun e w' => e = .returned (.tuple #[]) ∧ ROr b (nameC c (x :: t)) 150 w w' := by
  have HH := Lib.hid h
  have c10 := h.c10
  have f10 := h.fz 10
  have c1 := h.c1
  have f1 := h.fz 1
  have c9 := h.c9
  have f9 := h.fz 9
  have hltb := lt_of_blk h
  clear h
  have hl2 : t.length + 1 ≤ 1000 := by simpa using hl
  have hhas := fun V => rhas_any (x :: t) [38, 38] V hl (by decide)
  rw [hp] at hhas
  have hin := fun V => rin_any [38, 126, 64, 61] ((⟨(x :: t).toArray⟩ : ByteArray)[0]'(head0 x t)) V (by decide)
  have hI' : ([38, 126, 64, 61] : Bs).contains ((⟨(x :: t).toArray⟩ : ByteArray)[0]'(head0 x t)) = ([38, 126, 64, 61] : Bs).contains x := rfl
  rw [hI', hc] at hin
  clear hI'
  have hnc : nameC c (x :: t) = some ({ c with name := [x] }, t) := by
    unfold nameC
    simp only
    rw [if_neg hx, hp, hc]
    rfl
  have HNC := Lib.hid hnc
  have hex1 : (⟨(x :: t).toArray⟩ : ByteArray).extract 0 1 = ⟨([x] : Bs).toArray⟩ := ex_take (x :: t) 1
  have hex := ex_tail x t
  clear hnc hx hp hc
  go_enter Tryz.func17, Tryz.ntmps17
  go_wp2_with fail
  refine (hhas w).mono ?_
  rintro e w2 ⟨rfl, hw⟩
  obtain rfl : w = w2 := hw.symm
  go_wp2_with fail
  refine (hin w).mono ?_
  rintro e w2 ⟨rfl, hw⟩
  obtain rfl : w = w2 := hw.symm
  go_wp2_with fail
  refine bodyPost_ret (results_none rfl _ _ _) rfl ?_
  refine ⟨rfl, ((Mod.refl _ w).set1 1 _).set1 10 _, ?_⟩
  rw [HNC.out]
  exact (HH.out.setName [x]).setRest t

theorem best_prefix (l : Bs) : ∀ i j, bestAt l i = some j → Lib.hasPrefix l (LW.getD j []) = true := by
  intro i
  induction i with
  | zero => intro j h; cases h
  | succ i ih =>
    intro j h
    unfold bestAt at h
    split at h
    · rename_i hc
      cases h
      simp only [Bool.and_eq_true] at hc
      exact hc.1
    · exact ih j h

def bestI : Option Nat → Int
  | none => -1
  | some j => j

set_option maxRecDepth 100000 in
set_option maxHeartbeats 4000000 in
theorem rname_word (b : Nat) (c : Cm) (x : UInt8) (t : Bs) (w : World) (h : RR b c (x :: t) 0 w) (hl : (x :: t).length ≤ 1000) (hx : ¬ (x = 62 ∨ x = 60)) (e62 : ((((⟨(x :: t).toArray⟩ : ByteArray)[0]'(head0 x t)).toNat : Int) == 62) = false) (e60 : ((((⟨(x :: t).toArray⟩ : ByteArray)[0]'(head0 x t)).toNat : Int) == 60) = false) (hp : Lib.hasPrefix (x :: t) [38, 38] = false) (hc : ([38, 126, 64, 61] : Bs).contains x = false) :
    Calls Tryz.prog 17 #[.pointer (some ⟨b, 0, none⟩)] w fun e w' => e = .returned (.tuple #[]) ∧ ROr b (nameC c (x :: t)) 150 w w' := by
  have HH := Lib.hid h
  have c10 := h.c10
  have f10 := h.fz 10
  have c1 := h.c1
  have f1 := h.fz 1
  have c9 := h.c9
  have f9 := h.fz 9
  have hltb := lt_of_blk h
  clear h
  have hl2 : t.length + 1 ≤ 1000 := by simpa using hl
  have hhas := fun V => rhas_any (x :: t) [38, 38] V hl (by decide)
  rw [hp] at hhas
  have hin := fun V => rin_any [38, 126, 64, 61] ((⟨(x :: t).toArray⟩ : ByteArray)[0]'(head0 x t)) V (by decide)
  have hI' : ([38, 126, 64, 61] : Bs).contains ((⟨(x :: t).toArray⟩ : ByteArray)[0]'(head0 x t)) = ([38, 126, 64, 61] : Bs).contains x := rfl
  rw [hI', hc] at hin
  clear hI'
  have hnc : nameC c (x :: t) = (bestAt (x :: t) 31).map (fun j => ({ c with name := SW.getD j [] }, (x :: t).drop (LW.getD j []).length)) := by
    unfold nameC
    simp only
    rw [if_neg hx, hp, hc, best_law x t]
    cases bestAt (x :: t) 31 <;> rfl
  have HNC := Lib.hid hnc
  clear hnc hx hp hc
  go_enter Tryz.func17, Tryz.ntmps17
  go_wp2_with fail
  refine (hhas w).mono ?_
  rintro e w2 ⟨rfl, hw⟩
  obtain rfl : w = w2 := hw.symm
  go_wp2_with fail
  refine (hin w).mono ?_
  rintro e w2 ⟨rfl, hw⟩
  obtain rfl : w = w2 := hw.symm
  clear hhas hin
  go_wp2_with fail
  refine (rwords_any w).mono ?_
  rintro e w3 ⟨rfl, hB, hg, hL, hS⟩
  have HL := Lib.hid hL
  have HS := Lib.hid hS
  have h3 : RR b c (x :: t) 0 w3 := HH.out.mod (Mod.of_below (S := fun _ => False) hB) (fun c => c)
  have HH3 := Lib.hid h3
  clear hL hS h3 c10 f10 c1 f1 c9 f9
  go_wp2_with fail
  go_loopg [6, 7] 32 (fun g bb ii wr => ∃ i : Nat, 32 ≤ g + i ∧ i ≤ 31 ∧ bb = .int .i64 (bestI (bestAt (x :: t) i)) ∧ ii = .int .i64 (i : Int) ∧ Below w3.heap.size w3 wr)
  case atStart => exact ⟨0, by omega, by omega, rfl, rfl, Below.refl _ _⟩
  case round =>
    obtain ⟨i, hgk, hi1, rfl, rfl, hBr⟩ := hrel
    have hszr := hBr.size
    have hbw : b < wr.heap.size := by omega
    have hgw : w.heap.size < wr.heap.size := by omega
    have hgw1 : w.heap.size + 1 < wr.heap.size := by omega
    have hRr : RR b c (x :: t) 0 wr := HH3.out.mod (Mod.of_below (S := fun _ => False) hBr) (fun c => c)
    have HRr := Lib.hid hRr
    have c10 := hRr.c10
    clear hRr
    by_cases hi : i < 31
    · have cL := cell_below (HL.out i hi) hBr
      have hlen := lw_len i hi
      have hhas := fun V => rhas_any (x :: t) (LW.getD i []) V hl (by omega)
      have hskip := best_skip (l := x :: t) (i := i)
      have htake := best_take (l := x :: t) (i := i)
      obtain ⟨Wd, hWd⟩ : ∃ Wd, LW.getD i [] = Wd := ⟨_, rfl⟩
      have HWD := Lib.hid hWd
      rw [hWd] at cL hlen hhas hskip htake
      clear hWd
      cases hp : Lib.hasPrefix (x :: t) Wd with
      | false =>
        rw [hp] at hhas
        have HN := Lib.hid (hskip hp)
        clear hskip htake hp
        obtain ⟨v, hv⟩ : ∃ v, bestI (bestAt (x :: t) i) = v := ⟨_, rfl⟩
        have HV := Lib.hid (show Value.int .i64 v = .int .i64 (bestI (bestAt (x :: t) i)) by rw [hv])
        rw [hv]
        clear hv
        go_wp2_with fail
        refine wp_region_after_all (by kernel_rfl) (by kernel_rfl) ?_
        repeat (go_big_quiet_step ((go_at_call 45; exact After.calls_eq (hhas _))))
        refine wpQuiet_nil ?_
        intro _ hu
        obtain ⟨u, hu'⟩ := hu
        subst hu'
        have hBu : Below w3.heap.size w3 u.w := hBr.trans (u.h.below hszr (fun _ _ c => c))
        go_wp2_with fail
        go_roundg (gk - 1)
        case measure => omega
        case rel => exact ⟨i + 1, by omega, by omega, by rw [HN.out]; exact HV.out, by go_num, hBu⟩
      | true =>
        rw [hp] at hhas
        clear hskip
        cases hb : bestAt (x :: t) i with
        | none =>
          have HN := Lib.hid (htake hp (by rw [hb]; rfl))
          clear htake hp hb
          simp only [bestI]
          go_wp2_with fail
          refine wp_region_after_all (by kernel_rfl) (by kernel_rfl) ?_
          repeat (go_big_quiet_step ((go_at_call 45; exact After.calls_eq (hhas _))))
          refine wpQuiet_nil ?_
          intro _ hu
          obtain ⟨u, hu'⟩ := hu
          subst hu'
          have hBu : Below w3.heap.size w3 u.w := hBr.trans (u.h.below hszr (fun _ _ c => c))
          go_wp2_with fail
          go_roundg (gk - 1)
          case measure => omega
          case rel => exact ⟨i + 1, by omega, by omega, by rw [HN.out]; rfl, by go_num, hBu⟩
        | some j =>
          have hj := bestAt_lt _ _ _ hb
          have cJ := cell_below (HL.out j (by omega)) hBr
          have hlj := lw_len j (by omega)
          have hneg : decide ((j : Int) < 0) = false := by rw [decide_eq_false_iff_not]; omega
          have hj31 : j < 31 := by omega
          have hlg : longer (bestAt (x :: t) i) i = decide ((LW.getD j []).length < Wd.length) := by rw [hb]; show decide ((LW.getD j []).length < (LW.getD i []).length) = _; rw [HWD.out]
          simp only [bestI]
          by_cases hlt : (LW.getD j []).length < Wd.length
          · have HN := Lib.hid (htake hp (by rw [hlg]; exact decide_eq_true hlt))
            have hgt : decide (((LW.getD j []).length : Int) < (Wd.length : Int)) = true := by rw [decide_eq_true_eq]; omega
            generalize LW.getD j [] = Wj at cJ hlj hlt hgt
            clear htake hp hb hlg
            go_wp2_with fail
            refine wp_region_after_all (by kernel_rfl) (by kernel_rfl) ?_
            repeat (go_big_quiet_step ((go_at_call 45; exact After.calls_eq (hhas _))))
            refine wpQuiet_nil ?_
            intro _ hu
            obtain ⟨u, hu'⟩ := hu
            subst hu'
            have hBu : Below w3.heap.size w3 u.w := hBr.trans (u.h.below hszr (fun _ _ c => c))
            go_wp2_with fail
            go_roundg (gk - 1)
            case measure => omega
            case rel => exact ⟨i + 1, by omega, by omega, by rw [HN.out]; rfl, by go_num, hBu⟩
          · have HN := Lib.hid (show bestAt (x :: t) (i + 1) = some j by rw [bestAt, hlg, decide_eq_false hlt, Bool.and_false]; exact hb)
            have hgt : decide (((LW.getD j []).length : Int) < (Wd.length : Int)) = false := by rw [decide_eq_false_iff_not]; omega
            generalize LW.getD j [] = Wj at cJ hlj hlt hgt
            clear htake hp hb hlg
            go_wp2_with fail
            refine wp_region_after_all (by kernel_rfl) (by kernel_rfl) ?_
            repeat (go_big_quiet_step ((go_at_call 45; exact After.calls_eq (hhas _))))
            refine wpQuiet_nil ?_
            intro _ hu
            obtain ⟨u, hu'⟩ := hu
            subst hu'
            have hBu : Below w3.heap.size w3 u.w := hBr.trans (u.h.below hszr (fun _ _ c => c))
            go_wp2_with fail
            go_roundg (gk - 1)
            case measure => omega
            case rel => exact ⟨i + 1, by omega, by omega, by rw [HN.out]; rfl, by go_num, hBu⟩
    · obtain rfl : i = 31 := by omega
      cases hb : bestAt (x :: t) 31 with
      | none =>
        have HN2 := Lib.hid (show nameC c (x :: t) = none by rw [HNC.out, hb]; rfl)
        clear hb
        simp only [bestI]
        go_wp2_with fail
        refine (wrong_any b c (x :: t) 0 150 _ HRr.out).mono ?_
        rintro e w4 ⟨rfl, h4, hm4⟩
        rw [if_pos rfl] at h4
        have HH4 := Lib.hid h4
        go_wp2_with fail
        refine bodyPost_ret (results_none rfl _ _ _) rfl ?_
        refine ⟨rfl, Mod.trans (Mod.of_below (hB.trans (hBr.mono hB.size))) hm4, ?_⟩
        rw [HN2.out]
        exact ⟨_, _, hl, HH4.out⟩
      | some j =>
        have HN2 := Lib.hid (show nameC c (x :: t) = some ({ c with name := SW.getD j [] }, (x :: t).drop (LW.getD j []).length) by rw [HNC.out, hb]; rfl)
        have hj := bestAt_lt _ _ _ hb
        have cJ := cell_below (HL.out j hj) hBr
        have cS := cell_below (HS.out j hj) hBr
        have hlj := lw_len j hj
        have hpj : (LW.getD j []).length ≤ t.length + 1 := by
          have := (best_prefix (x :: t) 31 j hb)
          have := (List.isPrefixOf_iff_prefix.1 this).length_le
          simpa using this
        clear hb
        simp only [bestI]
        generalize LW.getD j [] = Wj at *
        generalize SW.getD j [] = Sj at *
        have hexd : (⟨(x :: t).toArray⟩ : ByteArray).extract Wj.length (t.length + 1) = ⟨((x :: t).drop Wj.length).toArray⟩ := by
          have := ex_drop (x :: t) Wj.length
          rw [List.length_cons] at this
          exact this
        have f10 := HRr.out.fz 10
        have c1 := HRr.out.c1
        have f1 := HRr.out.fz 1
        have hneg : decide ((j : Int) < 0) = false := by rw [decide_eq_false_iff_not]; omega
        go_wp2_with fail
        refine name_world (Q := fun W => Code.wp _ _ _ _ W) _ fun W hW => ?_
        have hRW : RR b { c with name := Sj } (x :: t) 0 W := by rw [hW]; exact HRr.out.setName Sj
        have hmW : Mod (· = b) w W := by rw [hW]; exact (Mod.of_below (hB.trans (hBr.mono hB.size))).set1 1 _
        have cJW : W.cell? ⟨w.heap.size, j, none⟩ = some (.string ⟨Wj.toArray⟩) := by rw [hW, World.cell?_setCell_other _ _ _ _ (by intro h; simp only [Addr.mk.injEq] at h; omega)]; exact cJ
        have hgW : w.heap.size < W.heap.size := by rw [hW]; simpa [World.setCell] using hgw
        clear hW
        have hbW := lt_of_blk hRW
        have HRW := Lib.hid hRW
        have c10 := hRW.c10
        have f10 := hRW.fz 10
        clear cJ cS hRW c1 f1
        refine wp_region_after [0, 1, 2, 3, 4, 5, 6, 7, 8, 9, 10, 11, 12] [13] (by kernel_rfl) (by kernel_rfl) (by intro c a d v w h; first | exact h | (delta Exit.then at h ⊢; exact h) | (dsimp +zetaDelta only [Exit.then, Exit.inBlock, Exit.noGoto, bodyPost, put_def] at h ⊢; exact h) | (simp +zetaDelta only at h ⊢; exact h) | (simp +zetaDelta only [bodyPost, put_def] at h ⊢; exact h) | (simp +zetaDelta only [Exit.then, Exit.inBlock, Exit.noGoto, bodyPost, put_def] at h ⊢; exact h)) ?_
        simp only [picks_nil, picks_cons, List.getD_cons_zero, List.getD_cons_succ]
        repeat (go_big_quiet_step ((fail)))
        refine wpQuiet_nil ?_
        intro _ hu
        obtain ⟨u, hu'⟩ := hu
        subst hu'
        have hRu : RR b { c with name := Sj } (x :: t) 0 u.w := u.get HRW.out
        have HRu := Lib.hid hRu
        have f10 := hRu.fz 10
        have c10 := hRu.c10
        have hmu : Mod (· = b) w u.w := hmW.trans u.h.widen
        go_wp2_with fail
        go_end0
        refine ⟨rfl, hmu.set1 10 _, ?_⟩
        rw [HN2.out]
        exact HRu.out.setRest _

theorem rname_any (b : Nat) (c : Cm) (l : Bs) (w : World) (h : RR b c l 0 w) (hl : l.length ≤ 1000) :
    Calls Tryz.prog 17 #[.pointer (some ⟨b, 0, none⟩)] w fun e w' => e = .returned (.tuple #[]) ∧ ROr b (nameC c l) 150 w w' := by
  rcases l with _ | ⟨x, t⟩
  · exact rname_nil b c w h
  by_cases h62 : x = 62
  · exact rname_gt b c x t w h hl h62 (by rw [h62]; rfl)
  have e62 : ((((⟨(x :: t).toArray⟩ : ByteArray)[0]'(head0 x t)).toNat : Int) == 62) = false := eqF' (b := 62) h62
  by_cases h60 : x = 60
  · exact rname_lt b c x t w h hl h60 e62 (by rw [h60]; rfl)
  have e60 : ((((⟨(x :: t).toArray⟩ : ByteArray)[0]'(head0 x t)).toNat : Int) == 60) = false := eqF' (b := 60) h60
  have hx : ¬ (x = 62 ∨ x = 60) := fun h => h.elim h62 h60
  cases hp : Lib.hasPrefix (x :: t) [38, 38] with
  | true => exact rname_amp b c x t w h hl hx e62 e60 hp
  | false =>
    cases hc : ([38, 126, 64, 61] : Bs).contains x with
    | true => exact rname_one b c x t w h hl hx e62 e60 hp hc
    | false => exact rname_word b c x t w h hl hx e62 e60 hp hc
end Go.Proofs.YthajagmccaaanaaGreatDoor
