/- cmd.reader: more. -/
import Derived.Test.YthajagmccaaanaaGreatDoorName
namespace Go.Proofs.YthajagmccaaanaaGreatDoor
open Go.RowKit

def cls (n : Bs) : Nat :=
  if n = [100] ∨ n = [121] then 0
  else if n = [112, 117] ∨ n = [64] then 1
  else if n = [106] ∨ n = [112] ∨ n = [61] ∨ n = [62] ∨ n = [60] ∨ n = [117] ∨ n = [101, 97, 114, 108, 105, 101, 114] ∨ n = [108, 97, 116, 101, 114] then 2
  else if n = [109] ∨ n = [116] then 3
  else if n = [107] then 4
  else if n = [115] then 5
  else if n = [38] ∨ n = [38, 38] ∨ n = [126] then 6
  else if n = [103] ∨ n = [118] then 7
  else if n = [110, 111, 114, 109] then 8
  else 9

def ofOpt (n : Int) : Option (Cm × Bs) → Except Int (Cm × List Ad × Bs)
  | none => .error n
  | some (c, l) => .ok (c, [], l)

def moreL (c : Cm) (l : Bs) : Except Int (Cm × List Ad × Bs) :=
  match cls c.name with
  | 0 => ofOpt 151 (numberC (registerC c l).1 (registerC c l).2)
  | 1 => .ok ((registerC c l).1, [], (registerC c l).2)
  | 2 => ofOpt 151 (numberC c l)
  | 3 => match rangeL l with
    | none => .error 141
    | some (ads, r) => if ads.length = 1 then .ok (c, ads, r) else .error 141
  | 4 => ofOpt 151 (markC c l)
  | 5 => ofOpt 151 (subC c l)
  | 6 => ofOpt 151 (flaggedC c l)
  | 7 => ofOpt 150 (globalC c l)
  | 8 => ofOpt 151 (keysC c l)
  | _ => .ok (c, [], l)

theorem registerC_dv (c : Cm) (l : Bs) : (registerC c l).1.dv = c.dv := by
  unfold registerC
  repeat' split
  all_goals rfl
theorem registerC_le (c : Cm) (l : Bs) : (registerC c l).2.length ≤ l.length := by
  have := blanks_le l
  unfold registerC
  repeat' split
  all_goals (rename_i h; simp_all; try omega)
def KeepsDv (c : Cm) (r : Option (Cm × Bs)) : Prop := ∀ c' l', r = some (c', l') → c'.dv = c.dv
theorem numberC_dv (c : Cm) (l : Bs) : KeepsDv c (numberC c l) := by
  intro c' l' h
  unfold numberC at h
  simp only at h
  repeat' split at h
  all_goals (first | (cases h; rfl) | cases h)
theorem flaggedC_dv (c : Cm) (l : Bs) : KeepsDv c (flaggedC c l) := by
  intro c' l' h
  unfold flaggedC at h
  have := numberC_dv _ _ c' l' h
  exact this
theorem subC_dv (c : Cm) (l : Bs) : KeepsDv c (subC c l) := by
  intro c' l' h
  unfold subC at h
  split at h
  · exact flaggedC_dv _ _ c' l' h
  · have := flaggedC_dv _ _ c' l' h
    exact this
theorem globalC_dv (c : Cm) (l : Bs) : KeepsDv c (globalC c l) := by
  intro c' l' h
  unfold globalC at h
  split at h
  · cases h
  · cases h; rfl
theorem markC_dv (c : Cm) (l : Bs) : KeepsDv c (markC c l) := by
  intro c' l' h
  unfold markC at h
  split at h
  · cases h
  · cases h; rfl
theorem keysC_dv (c : Cm) (l : Bs) : KeepsDv c (keysC c l) := by
  intro c' l' h
  unfold keysC at h
  simp only at h
  split at h
  · cases h
  · cases h; rfl

/-- What more leaves: an error's number, or a command, where to, and what is left. -/
def MorePost (b : Nat) (m : Except Int (Cm × List Ad × Bs)) (w : World) (e : Ending) (w' : World) : Prop :=
  Mod (· = b) w w' ∧ match m with
  | .error n => e = .returned (.int .u16 n)
  | .ok (c, ads, r) => e = .returned (.int .u16 0) ∧ ∃ v, RD b { c with dv := v } r w' ∧ AdsV w.heap.size v ads w'
theorem morePost_opt {b : Nat} {c : Cm} {r : Option (Cm × Bs)} {n : Int} {w0 w w' : World} {e : Ending} (hk : KeepsDv c r) (hc : c.dv = .slice none 0 0) (hm : Mod (· = b) w0 w) (h : OrErr b r n w e w') : MorePost b (ofOpt n r) w0 e w' := by
  obtain ⟨h1, h2⟩ := h
  refine ⟨hm.trans h1, ?_⟩
  rcases r with _ | ⟨c', l'⟩
  · exact h2
  · have := hk c' l' rfl
    refine ⟨h2.1, .slice none 0 0, ?_, AdsV.nil _ _⟩
    rw [hc] at this
    rw [← this]
    exact h2.2
theorem morePost_ok {b : Nat} {c : Cm} {r : Bs} {w w' : World} (hc : c.dv = .slice none 0 0) (h : RD b c r w') (hm : Mod (· = b) w w') : MorePost b (.ok (c, [], r)) w (.returned (.int .u16 0)) w' := by
  refine ⟨hm, rfl, .slice none 0 0, ?_, AdsV.nil _ _⟩
  rw [← hc]
  exact h
theorem DestPost.more {b : Nat} {c : Cm} {l : Bs} {w w' : World} {e : Ending} (h : DestPost b c l w e w') : MorePost b (match rangeL l with | none => .error 141 | some (ads, r) => if ads.length = 1 then .ok (c, ads, r) else .error 141) w e w' := by
  obtain ⟨hm, h⟩ := h
  refine ⟨hm, ?_⟩
  cases hr : rangeL l with
  | none => rw [hr] at h; exact h
  | some p =>
    obtain ⟨ads, r⟩ := p
    rw [hr] at h
    simp only at h ⊢
    by_cases h1 : ads.length = 1
    · rw [if_pos h1] at h ⊢; exact h
    · rw [if_neg h1] at h ⊢; exact h
theorem MorePost.shape {b : Nat} {m : Except Int (Cm × List Ad × Bs)} {w w' : World} {e : Ending} (h : MorePost b m w e w') : ∃ v, e = .returned (.int .u16 v) := by
  obtain ⟨_, h⟩ := h
  rcases m with n | ⟨c, ads, r⟩
  · exact ⟨_, h⟩
  · exact ⟨_, h.1⟩

theorem RD.cn {b : Nat} {c : Cm} {l n : Bs} {w : World} (h : RD b c l w) (hn : c.name = n) : w.cell? ⟨b, 1, none⟩ = some (.string ⟨n.toArray⟩) := hn ▸ h.c1
end Go.Proofs.YthajagmccaaanaaGreatDoor
