/- emendatorlaw15.CmdParses: the walk. -/
import Derived.Test.YthajagmccaaanaaGreatDoorRCmd
import Derived.Test.YthajagmccaaanaaGreatDoorSame
namespace Go.Proofs.YthajagmccaaanaaGreatDoor
open Go.RowKit

theorem ref_ok {s : Bs} {c : Cm} {ads dst : List Ad} (w : World) (hs : s.length ≤ 1000000) (h : ∀ v, parseR v s = .ok ({ c with rv := v }, ads, dst)) :
    Calls Tryz.prog 6 #[.string ⟨s.toArray⟩] w fun e w' => Below w.heap.size w w' ∧ ∃ p n p' n', e = .returned (.tuple #[.agg #[.slice p ads.length n, .string ⟨c.name.toArray⟩, .bool c.bang, .int .u8 c.reg.toNat, .int .i64 c.count, .slice p' dst.length n', .string ⟨c.pat.toArray⟩, .string ⟨c.rep.toArray⟩, .string ⟨c.flags.toArray⟩, .string ⟨c.arg.toArray⟩], .int .i64 0]) ∧
      AdsV w.heap.size (.slice p ads.length n) ads w' ∧ AdsV w.heap.size (.slice p' dst.length n') dst w' := by
  refine (rcmd_any s w hs).mono ?_
  rintro e w' ⟨hb, v, hp⟩
  rw [h v] at hp
  obtain ⟨d, rfl, h1, h2⟩ := hp
  obtain ⟨p, n, rfl⟩ := h1.shape
  obtain ⟨p', n', rfl⟩ := h2.shape
  exact ⟨hb, p, n, p', n', rfl, h1, h2⟩
theorem ref_err {s : Bs} {k : Int} (w : World) (hs : s.length ≤ 1000000) (h : ∀ v, parseR v s = .error k) :
    Calls Tryz.prog 6 #[.string ⟨s.toArray⟩] w fun e w' => Below w.heap.size w w' ∧ e = .returned (.tuple #[.agg #[.slice none 0 0, .string ⟨#[]⟩, .bool false, .int .u8 0, .int .i64 0, .slice none 0 0, .string ⟨#[]⟩, .string ⟨#[]⟩, .string ⟨#[]⟩, .string ⟨#[]⟩], .int .i64 k]) := by
  refine (rcmd_any s w hs).mono ?_
  rintro e w' ⟨hb, v, hp⟩
  rw [h v] at hp
  exact ⟨hb, hp⟩

set_option maxRecDepth 100000 in
set_option maxHeartbeats 4000000 in
theorem parsesLaw_any (l : Bs) (w : World) (hk : Kn w) : Calls Tryz.prog 3 #[.string ⟨l.toArray⟩] w fun e w' => e = .returned (.bool true) ∧ Below w.heap.size w w' := by
  by_cases hl : 1100 < l.length
  · go_enter Tryz.func3, Tryz.ntmps3
    go_wp2_with fail
    refine (known_any w hk).mono ?_
    rintro e w1 ⟨rfl, hb⟩
    go_wp2_with fail
    go_ret
    exact ⟨rfl, hb⟩
  · go_enter Tryz.func3, Tryz.ntmps3
    go_wp2_with fail
    refine (known_any w hk).mono ?_
    rintro e w1 ⟨rfl, hb⟩
    have hk1 := hk.below hb
    have hsz := hb.size
    go_wp2_with fail
    rcases parse_cases l with ⟨n, hp⟩ | ⟨c, ads, dst, hp⟩
    · rcases parseR_err (hp .nilFunc) with rfl | rfl | rfl | rfl
      all_goals refine (parse_err w1 hk1 (by omega) hp).mono ?_
      all_goals rintro e w2 ⟨hb2, rfl⟩
      all_goals have hB2 := hb.trans (hb2.mono hsz)
      all_goals have hs2 := hB2.size
      all_goals have HP := Lib.hid hp
      all_goals clear hp
      all_goals go_wp2_with fail
      all_goals refine name_world (Q := fun W1 => Calls _ _ _ W1 _) _ fun W2 hW2 => ?_
      all_goals have hz : CB w2.heap.size cmdZ W2 := by rw [hW2]; exact cb_new w2
      all_goals have hB3 : Below w.heap.size w W2 := by rw [hW2]; exact hB2.alloc hs2 _
      all_goals clear hW2
      all_goals have hs3 := hB3.size
      all_goals refine (ref_err W2 (by omega) HP.out).mono ?_
      all_goals rintro e w3 ⟨hb3, rfl⟩
      all_goals have hB4 := hB3.trans (hb3.mono hs3)
      all_goals have hs4 := hB4.size
      all_goals have hz3 : CB w2.heap.size cmdZ w3 := (hb3.block _ (lt_of_blk hz)).trans hz
      all_goals obtain ⟨x0, x1, x2, x3, x4, x5, x6, x7, x8, x9⟩ := ten_cells hz3
      all_goals simp only [cmdZ] at x0 x1 x2 x3 x4 x5 x6 x7 x8 x9
      all_goals have hltz := lt_of_blk hz3
      all_goals go_wp2_with fail
      all_goals refine (same15_zero _).mono ?_
      all_goals rintro e w5 ⟨rfl, hb5⟩
      all_goals go_wp2_with fail
      all_goals go_ret
      all_goals exact ⟨rfl, (hB4.alloc hs4 _).trans (hb5.mono (by simp; omega))⟩
    · refine (parse_ok w1 hk1 (by omega) hp).mono ?_
      rintro e w2 ⟨hb2, p, n, p', n', rfl, hv, hd⟩
      have hB2 := hb.trans (hb2.mono hsz)
      have hs2 := hB2.size
      have HP := Lib.hid hp
      clear hp
      go_wp2_with fail
      refine name_world (Q := fun W1 => Calls _ _ _ W1 _) _ fun W2 hW2 => ?_
      have hz : CB w2.heap.size { c with rv := .slice p ads.length n, dv := .slice p' dst.length n' } W2 := by rw [hW2]; exact blk_new _ _
      have hB3' : Below w2.heap.size w2 W2 := by rw [hW2]; exact (Below.refl _ w2).alloc (Nat.le_refl _) _
      clear hW2
      have hB3 := hB2.trans (hB3'.mono hs2)
      have hs3 := hB3.size
      refine (ref_ok W2 (by omega) HP.out).mono ?_
      rintro e w3 ⟨hb3, q, m, q', m', rfl, hv', hd'⟩
      have hB4 := hB3.trans (hb3.mono hs3)
      have hs4 := hB4.size
      have hK := hB3'.trans (hb3.mono hB3'.size)
      have hz3 := (hb3.block _ (lt_of_blk hz)).trans hz
      obtain ⟨x0, x1, x2, x3, x4, x5, x6, x7, x8, x9⟩ := ten_cells hz3
      simp only [] at x0 x1 x2 x3 x4 x5 x6 x7 x8 x9
      have hltz := lt_of_blk hz3
      go_wp2_with fail
      refine name_world (Q := fun W1 => Calls _ _ _ W1 _) _ fun W3 hW3 => ?_
      have hB5 : Below w3.heap.size w3 W3 := by rw [hW3]; exact (Below.refl _ w3).alloc (Nat.le_refl _) _
      clear hW3
      refine (same15_eq _ _ c _ _ _ _ _ _ _ _ ads dst W3 ((hv.keep hK).keep hB5) ((hd.keep hK).keep hB5) (hv'.keep hB5) (hd'.keep hB5)).mono ?_
      rintro e w5 ⟨rfl, hb5⟩
      have hB6 := hB4.trans (hB5.mono hs4)
      go_wp2_with fail
      go_ret
      exact ⟨rfl, hB6.trans (hb5.mono hB6.size)⟩
end Go.Proofs.YthajagmccaaanaaGreatDoor
