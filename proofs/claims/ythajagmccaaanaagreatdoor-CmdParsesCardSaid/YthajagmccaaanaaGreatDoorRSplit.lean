/- emendatorref14.Split. -/
import Derived.Test.YthajagmccaaanaaGreatDoorSplit
import Derived.Test.YthajagmccaaanaaGreatDoorRKind
namespace Go.Proofs.YthajagmccaaanaaGreatDoor
open Go.RowKit

theorem ex_one (s : ByteArray) (j : Nat) (h : j < s.size) : s.extract j (j + 1) = ⟨([s[j]] : Bs).toArray⟩ := by
  apply ByteArray.ext
  simp
  apply Array.ext
  · simp; omega
  · intro k h1 h2
    simp at h2
    subst h2
    simp
    rfl
theorem app_one (acc : Bs) (s : ByteArray) (j : Nat) (h : j < s.size) : ((⟨acc.toArray⟩ : ByteArray) ++ s.extract j (j + 1)) = ⟨(acc ++ [s[j]]).toArray⟩ := by
  rw [ex_one s j h, ByteArray.mk_append_mk]
theorem app_esc (acc : Bs) : ((⟨acc.toArray⟩ : ByteArray) ++ ⟨#[92]⟩) = ⟨(acc ++ [92]).toArray⟩ := by
  rw [show (⟨#[92]⟩ : ByteArray) = ⟨([92] : Bs).toArray⟩ from rfl, ByteArray.mk_append_mk]

set_option maxRecDepth 100000 in
set_option maxHeartbeats 4000000 in
theorem rsplit_any (s : ByteArray) (i : Nat) (c : UInt8) (w : World) (hi : i ≤ s.size) (hs : s.size ≤ 1000000) :
    Calls Tryz.prog 88 #[.string s, .int .i64 i, .int .u8 c.toNat] w fun e w' =>
      e = .returned (.tuple #[.string ⟨(splitL c (s.data.toList.drop i)).1.toArray⟩, .int .i64 ((i + (splitL c (s.data.toList.drop i)).2 : Nat))]) ∧ Below w.heap.size w w' := by
  go_enter Tryz.func88, Tryz.ntmps88
  go_wp2_with fail
  go_loopg [8, 9] s.size (fun g o p wr => ∃ (j : Nat) (acc : Bs), p = .int .i64 j ∧ o = .string ⟨acc.toArray⟩ ∧ s.size ≤ g + j ∧ j ≤ s.size ∧ Spl s i c j acc ∧ Below w.heap.size w wr)
  case atStart => exact ⟨i, [], rfl, rfl, by omega, hi, Spl.start s i c, Below.refl _ _⟩
  case round =>
    obtain ⟨j, acc, rfl, rfl, hg, hj, hsp, hB⟩ := hrel
    have hl1 := hsp.1
    by_cases hlt : j < s.size
    · by_cases hesc : s[j] = 92 ∧ j + 1 < s.size
      · obtain ⟨h92, hlt1⟩ := hesc
        have e1 : ((s[j].toNat : Int) == 92) = true := by rw [h92]; rfl
        have ha1 := app_one acc s (j + 1) hlt1
        have ha2 := app_one (acc ++ [92]) s (j + 1) hlt1
        have ha3 := app_esc acc
        by_cases hcy : s[j + 1] = c
        · have e2 : ((s[j + 1].toNat : Int) != (c.toNat : Int)) = false := by rw [hcy]; simp
          have hsp1 := hsp.esc1 hlt1 h92 hcy
          clear hcy h92
          go_wp2_with fail
          go_roundg (gk - 2)
          case measure => omega
          case rel => exact ⟨j + 2, _, by go_num, rfl, by omega, by omega, hsp1, hB⟩
        · have e2 : ((s[j + 1].toNat : Int) != (c.toNat : Int)) = true := by
            rw [bne_iff_ne]
            intro c'
            exact hcy (UInt8.toNat_inj.1 (by omega))
          have hsp1 := hsp.esc2 hlt1 h92 hcy
          clear hcy h92
          go_wp2_with fail
          go_roundg (gk - 2)
          case measure => omega
          case rel => exact ⟨j + 2, _, by go_num, rfl, by omega, by omega, by simpa using hsp1, hB⟩
      · by_cases hcx : s[j] = c
        · have HR := Lib.hid (hsp.sign hlt hesc hcx)
          have e2 : ((s[j].toNat : Int) == (c.toNat : Int)) = true := by rw [hcx]; simp
          have hij := hsp.2.2
          clear hcx
          by_cases h92 : s[j] = 92
          · have e1 : ((s[j].toNat : Int) == 92) = true := by rw [h92]; rfl
            have hge : ¬ j + 1 < s.size := fun c' => hesc ⟨h92, c'⟩
            clear h92 hesc
            go_wp2_with fail
            go_ret2
            exact ⟨split_end HR.out (by omega), hB⟩
          · have e1 : ((s[j].toNat : Int) == 92) = false := by
              rw [beq_eq_false_iff_ne]
              intro c'
              exact h92 (UInt8.toNat_inj.1 (by show _ = 92; omega))
            clear h92 hesc
            go_wp2_with fail
            go_ret2
            exact ⟨split_end HR.out (by omega), hB⟩
        · have hsp1 := hsp.other hlt hesc hcx
          have ha1 := app_one acc s j hlt
          have e2 : ((s[j].toNat : Int) == (c.toNat : Int)) = false := by
            rw [beq_eq_false_iff_ne]
            intro c'
            exact hcx (UInt8.toNat_inj.1 (by omega))
          clear hcx
          by_cases h92 : s[j] = 92
          · have e1 : ((s[j].toNat : Int) == 92) = true := by rw [h92]; rfl
            have hge : ¬ j + 1 < s.size := fun c' => hesc ⟨h92, c'⟩
            clear h92 hesc
            go_wp2_with fail
            go_roundg (gk - 1)
            case measure => omega
            case rel => exact ⟨j + 1, _, by go_num, rfl, by omega, by omega, hsp1, hB⟩
          · have e1 : ((s[j].toNat : Int) == 92) = false := by
              rw [beq_eq_false_iff_ne]
              intro c'
              exact h92 (UInt8.toNat_inj.1 (by show _ = 92; omega))
            clear h92 hesc
            go_wp2_with fail
            go_roundg (gk - 1)
            case measure => omega
            case rel => exact ⟨j + 1, _, by go_num, rfl, by omega, by omega, hsp1, hB⟩
    · have HR := Lib.hid (hsp.done hlt hj)
      have hij := hsp.2.2
      go_wp2_with fail
      go_ret2
      exact ⟨split_end HR.out (by omega), hB⟩
end Go.Proofs.YthajagmccaaanaaGreatDoor
