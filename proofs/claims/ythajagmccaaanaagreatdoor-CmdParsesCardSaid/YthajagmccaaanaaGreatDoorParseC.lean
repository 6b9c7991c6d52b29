/- cmd.Parse: what it computes. -/
import Derived.Test.YthajagmccaaanaaGreatDoorMoreB
namespace Go.Proofs.YthajagmccaaanaaGreatDoor
open Go.RowKit

def isBold (n : Bs) : Bool := [[106], [112, 117], [103], [110, 111, 114, 109], [100], [121], [117]].contains n
def bangC (c : Cm) (l : Bs) : Cm × Bs :=
  if Lib.hasPrefix l [33] = true ∧ isBold c.name = true then ({ c with bang := true }, l.drop 1) else (c, l)
def cmd0 (v : Value) : Cm := ⟨v, [], false, 0, -1, .slice none 0 0, [], [], [], []⟩
def endL (ads : List Ad) : Except Int (Cm × List Ad × Bs) → Except Int (Cm × List Ad × List Ad)
  | .error n => .error n
  | .ok (c, dst, l) => match blanks l with
    | [] => .ok (c, ads, dst)
    | _ :: _ => .error 151
def bodyL (v : Value) (ads : List Ad) (r : Bs) : Except Int (Cm × List Ad × List Ad) :=
  match nameC (cmd0 v) r with
  | none => .error 150
  | some (c, l) => endL ads (moreL (bangC c l).1 (bangC c l).2)
/-- A command's text read: an error's number, or the command, its range and where to. -/
def parseR (v : Value) (s : Bs) : Except Int (Cm × List Ad × List Ad) :=
  if 1000 < s.length then .error 3 else
  match rangeL s with
  | none => .error 141
  | some (ads, r) => bodyL v ads r

def cmdV (c : Cm) : Value := .agg #[c.rv, .string ⟨c.name.toArray⟩, .bool c.bang, .int .u8 c.reg.toNat, .int .i64 c.count, c.dv, .string ⟨c.pat.toArray⟩, .string ⟨c.rep.toArray⟩, .string ⟨c.flags.toArray⟩, .string ⟨c.arg.toArray⟩]
def cmdZ : Cm := ⟨.slice none 0 0, [], false, 0, 0, .slice none 0 0, [], [], [], []⟩

def CmdPost (s : Bs) (w : World) (e : Ending) (w' : World) : Prop :=
  Below w.heap.size w w' ∧ ∃ v, match parseR v s with
  | .error n => e = .returned (.tuple #[cmdV cmdZ, .int .u16 n])
  | .ok (c, ads, dst) => ∃ d, e = .returned (.tuple #[cmdV { c with dv := d }, .int .u16 0]) ∧ AdsV w.heap.size v ads w' ∧ AdsV w.heap.size d dst w'

/-- A command's block. -/
def CB (B : Nat) (c : Cm) (w : World) : Prop :=
  w.heap[B]? = some (.cells #[c.rv, .string ⟨c.name.toArray⟩, .bool c.bang, .int .u8 c.reg.toNat, .int .i64 c.count, c.dv, .string ⟨c.pat.toArray⟩, .string ⟨c.rep.toArray⟩, .string ⟨c.flags.toArray⟩, .string ⟨c.arg.toArray⟩] 25 (0, 0))
theorem ten_cells {w : World} {B : Nat} {c : Cm} (h : CB B c w) :
    w.cell? ⟨B, 0, none⟩ = some c.rv ∧ w.cell? ⟨B, 1, none⟩ = some (.string ⟨c.name.toArray⟩) ∧ w.cell? ⟨B, 2, none⟩ = some (.bool c.bang) ∧ w.cell? ⟨B, 3, none⟩ = some (.int .u8 c.reg.toNat) ∧ w.cell? ⟨B, 4, none⟩ = some (.int .i64 c.count) ∧ w.cell? ⟨B, 5, none⟩ = some c.dv ∧
      w.cell? ⟨B, 6, none⟩ = some (.string ⟨c.pat.toArray⟩) ∧ w.cell? ⟨B, 7, none⟩ = some (.string ⟨c.rep.toArray⟩) ∧ w.cell? ⟨B, 8, none⟩ = some (.string ⟨c.flags.toArray⟩) ∧ w.cell? ⟨B, 9, none⟩ = some (.string ⟨c.arg.toArray⟩) := by
  refine ⟨?_, ?_, ?_, ?_, ?_, ?_, ?_, ?_, ?_, ?_⟩ <;> (rw [Lib.cell_of_heap h]; rfl)
theorem ten_frozen {w : World} {B : Nat} {c : Cm} (h : CB B c w) (j : Nat) : w.frozen? ⟨B, j, none⟩ = false := Lib.frozen_of_heap h j
theorem blk_set10 {w : World} {B : Nat} {a0 a1 a2 a3 a4 a5 a6 a7 a8 a9 : Value} {T : TypeId} (h : w.heap[B]? = some (.cells #[a0, a1, a2, a3, a4, a5, a6, a7, a8, a9] T (0, 0))) (v0 v1 v2 v3 v4 v5 v6 v7 v8 v9 : Value) :
    ((((((((((w.setCell ⟨B, 0, none⟩ v0).setCell ⟨B, 1, none⟩ v1).setCell ⟨B, 2, none⟩ v2).setCell ⟨B, 3, none⟩ v3).setCell ⟨B, 4, none⟩ v4).setCell ⟨B, 5, none⟩ v5).setCell ⟨B, 6, none⟩ v6).setCell ⟨B, 7, none⟩ v7).setCell ⟨B, 8, none⟩ v8).setCell ⟨B, 9, none⟩ v9).heap[B]? = some (.cells #[v0, v1, v2, v3, v4, v5, v6, v7, v8, v9] T (0, 0)) := by
  rw [blk_setCell (blk_setCell (blk_setCell (blk_setCell (blk_setCell (blk_setCell (blk_setCell (blk_setCell (blk_setCell (blk_setCell h 0 v0) 1 v1) 2 v2) 3 v3) 4 v4) 5 v5) 6 v6) 7 v7) 8 v8) 9 v9]
  simp
theorem Mod.set10 {S : Nat → Prop} {a w : World} {B : Nat} (h : Mod S a w) (hB : S B ∨ a.heap.size ≤ B) (v0 v1 v2 v3 v4 v5 v6 v7 v8 v9 : Value) :
    Mod S a ((((((((((w.setCell ⟨B, 0, none⟩ v0).setCell ⟨B, 1, none⟩ v1).setCell ⟨B, 2, none⟩ v2).setCell ⟨B, 3, none⟩ v3).setCell ⟨B, 4, none⟩ v4).setCell ⟨B, 5, none⟩ v5).setCell ⟨B, 6, none⟩ v6).setCell ⟨B, 7, none⟩ v7).setCell ⟨B, 8, none⟩ v8).setCell ⟨B, 9, none⟩ v9) :=
  Mod.setCell (p := ⟨B, 9, none⟩) (Mod.setCell (p := ⟨B, 8, none⟩) (Mod.setCell (p := ⟨B, 7, none⟩) (Mod.setCell (p := ⟨B, 6, none⟩) (Mod.setCell (p := ⟨B, 5, none⟩) (Mod.setCell (p := ⟨B, 4, none⟩) (Mod.setCell (p := ⟨B, 3, none⟩) (Mod.setCell (p := ⟨B, 2, none⟩) (Mod.setCell (p := ⟨B, 1, none⟩) (Mod.setCell (p := ⟨B, 0, none⟩) h hB _) hB _) hB _) hB _) hB _) hB _) hB _) hB _) hB _) hB _
theorem results_cmd {fn : Func} {x : Tmp} (hf : fn.results = #[.cell 2 25, .tmp x]) {tmps : Array Value} {w : World} {B : Nat} {c : Cm} (hp : tmps.getD 2 undef = .pointer (some ⟨B, 0, none⟩)) (h : CB B c w) :
    (results fn tmps).run Tryz.prog w = .ok (.tuple #[cmdV c, tmps.getD x undef]) w := by
  obtain ⟨d0, d1, d2, d3, d4, d5, d6, d7, d8, d9⟩ := ten_cells h
  simp only [Array.getD_eq_getD_getElem?] at hp
  simp [results, hf, go_sem, hp, d0, d1, d2, d3, d4, d5, d6, d7, d8, d9, cmdV]

theorem Mod.cell {S : Nat → Prop} {a b : World} (h : Mod S a b) {k j : Nat} {v : Value} (hc : a.cell? ⟨k, j, none⟩ = some v) (hk : k < a.heap.size) (hs : ¬ S k) : b.cell? ⟨k, j, none⟩ = some v := by
  rw [← hc]
  unfold World.cell?
  simp only [h.block k hk hs]

theorem names_bold : ∀ n ∈ names, n ≠ [] → Lib.contains [32, 106, 32, 112, 117, 32, 103, 32, 110, 111, 114, 109, 32, 100, 32, 121, 32, 117, 32] (32 :: n ++ [32]) = isBold n := by decide
theorem names_len : ∀ n ∈ names, n.length ≤ 7 := by decide
theorem names_tbl : ∀ p ∈ tbl, ∀ q ∈ p.2, q.2 ∈ names := by decide
theorem wordIn_mem {l : Bs} {p : Bs × Bs} : ∀ {ws : Ws}, wordIn l ws = some p → p ∈ ws
  | [], h => by cases h
  | q :: ws, h => by
    unfold wordIn at h
    split at h
    · cases h; simp
    · exact List.mem_cons_of_mem _ (wordIn_mem h)
theorem nameC_names {v : Value} {l r : Bs} {c : Cm} (h : nameC (cmd0 v) l = some (c, r)) : c.name ∈ names ∧ c.dv = .slice none 0 0 ∧ c.rv = v ∧ r.length ≤ l.length := by
  unfold nameC at h
  rcases l with _ | ⟨x, t⟩
  · cases h; exact ⟨show ([] : Bs) ∈ names by decide, rfl, rfl, by simp⟩
  · simp only at h
    split at h
    · rename_i hx
      cases h
      refine ⟨?_, rfl, rfl, cutL_le x (x :: t)⟩
      rcases hx with rfl | rfl
      · exact show ([62] : Bs) ∈ names by decide
      · exact show ([60] : Bs) ∈ names by decide
    · split at h
      · cases h; exact ⟨show ([38, 38] : Bs) ∈ names by decide, rfl, rfl, by simp; omega⟩
      · split at h
        · rename_i hx
          cases h
          refine ⟨?_, rfl, rfl, by simp⟩
          simp only [List.contains_cons, List.contains_nil, Bool.or_false, Bool.or_eq_true, beq_iff_eq] at hx
          rcases hx with rfl | rfl | rfl | rfl
          · exact show ([38] : Bs) ∈ names by decide
          · exact show ([126] : Bs) ∈ names by decide
          · exact show ([64] : Bs) ∈ names by decide
          · exact show ([61] : Bs) ∈ names by decide
        · split at h
          · cases h
          · rename_i p hp
            cases h
            refine ⟨?_, rfl, rfl, by simp⟩
            have h1 := wordIn_mem hp
            unfold wordsAt at h1
            cases hf : findW x tbl with
            | none => rw [hf] at h1; simp at h1
            | some ws =>
              rw [hf] at h1
              obtain ⟨d, hd⟩ := findW_mem hf
              exact names_tbl _ hd p h1

theorem registerC_rv (c : Cm) (l : Bs) : (registerC c l).1.rv = c.rv := by
  unfold registerC
  repeat' split
  all_goals rfl
def KeepsRv (c : Cm) (r : Option (Cm × Bs)) : Prop := ∀ c' l', r = some (c', l') → c'.rv = c.rv
theorem numberC_rv (c : Cm) (l : Bs) : KeepsRv c (numberC c l) := by
  intro c' l' h
  unfold numberC at h
  simp only at h
  repeat' split at h
  all_goals (first | (cases h; rfl) | cases h)
theorem flaggedC_rv (c : Cm) (l : Bs) : KeepsRv c (flaggedC c l) := by
  intro c' l' h
  unfold flaggedC at h
  have := numberC_rv _ _ c' l' h
  exact this
theorem subC_rv (c : Cm) (l : Bs) : KeepsRv c (subC c l) := by
  intro c' l' h
  unfold subC at h
  split at h
  · exact flaggedC_rv _ _ c' l' h
  · have := flaggedC_rv _ _ c' l' h
    exact this
theorem globalC_rv (c : Cm) (l : Bs) : KeepsRv c (globalC c l) := by
  intro c' l' h
  unfold globalC at h
  split at h
  · cases h
  · cases h; rfl
theorem markC_rv (c : Cm) (l : Bs) : KeepsRv c (markC c l) := by
  intro c' l' h
  unfold markC at h
  split at h
  · cases h
  · cases h; rfl
theorem keysC_rv (c : Cm) (l : Bs) : KeepsRv c (keysC c l) := by
  intro c' l' h
  unfold keysC at h
  simp only at h
  split at h
  · cases h
  · cases h; rfl
theorem ofOpt_rv {n : Int} {r : Option (Cm × Bs)} {c c' : Cm} {a : List Ad} {l : Bs} (hk : KeepsRv c r) (h : ofOpt n r = .ok (c', a, l)) : c'.rv = c.rv := by
  rcases r with _ | ⟨d, k⟩
  · cases h
  · cases h; exact hk _ _ rfl
theorem moreL_rv {c c' : Cm} {l r : Bs} {a : List Ad} (h : moreL c l = .ok (c', a, r)) : c'.rv = c.rv := by
  unfold moreL at h
  split at h
  · exact (ofOpt_rv (numberC_rv _ _) h).trans (registerC_rv c l)
  · cases h; exact registerC_rv c l
  · exact ofOpt_rv (numberC_rv _ _) h
  · split at h
    · cases h
    · split at h
      · cases h; rfl
      · cases h
  · exact ofOpt_rv (markC_rv _ _) h
  · exact ofOpt_rv (subC_rv _ _) h
  · exact ofOpt_rv (flaggedC_rv _ _) h
  · exact ofOpt_rv (globalC_rv _ _) h
  · exact ofOpt_rv (keysC_rv _ _) h
  · cases h; rfl
theorem ofOpt_err {n k : Int} {r : Option (Cm × Bs)} (h : ofOpt n r = .error k) : k = n := by
  rcases r with _ | ⟨d, j⟩
  · cases h; rfl
  · cases h
theorem moreL_err {c : Cm} {l : Bs} {n : Int} (h : moreL c l = .error n) : n = 141 ∨ n = 150 ∨ n = 151 := by
  unfold moreL at h
  split at h
  · exact .inr (.inr (ofOpt_err h))
  · cases h
  · exact .inr (.inr (ofOpt_err h))
  · split at h
    · cases h; exact .inl rfl
    · split at h
      · cases h
      · cases h; exact .inl rfl
  · exact .inr (.inr (ofOpt_err h))
  · exact .inr (.inr (ofOpt_err h))
  · exact .inr (.inr (ofOpt_err h))
  · exact .inr (.inl (ofOpt_err h))
  · exact .inr (.inr (ofOpt_err h))
  · cases h
theorem isBold_nil : isBold [] = false := rfl
theorem bangC_no {c : Cm} {l : Bs} (h : Lib.hasPrefix l [33] = false ∨ isBold c.name = false) : bangC c l = (c, l) := by
  unfold bangC
  rw [if_neg (by rintro ⟨h1, h2⟩; rcases h with h | h; (rw [h1] at h; cases h); (rw [h2] at h; cases h))]
theorem bangC_yes {c : Cm} {t : Bs} (h : isBold c.name = true) : bangC c (33 :: t) = ({ c with bang := true }, t) := by
  unfold bangC
  rw [if_pos ⟨rfl, h⟩]
  rfl
theorem prefix1 {l : Bs} (h : Lib.hasPrefix l [33] = true) : ∃ t, l = 33 :: t := by
  obtain ⟨r, rfl⟩ := List.isPrefixOf_iff_prefix.1 h
  exact ⟨r, rfl⟩
end Go.Proofs.YthajagmccaaanaaGreatDoor
