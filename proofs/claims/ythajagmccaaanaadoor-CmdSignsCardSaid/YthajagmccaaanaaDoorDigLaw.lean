/- Plain laws: a number's digits; blanks; texts with digits read. -/
import Derived.Test.YthajagmccaaanaaDoorWordLaw
namespace Go.Proofs.YthajagmccaaanaaDoor
open Go

def digL (n : Nat) : Bs := if h : n < 10 then [UInt8.ofNat (48 + n)] else digL (n / 10) ++ [UInt8.ofNat (48 + n % 10)]
theorem digL_small {n : Nat} (h : n < 10) : digL n = [UInt8.ofNat (48 + n)] := by unfold digL; rw [dif_pos h]
theorem digL_big {n : Nat} (h : ¬ n < 10) : digL n = digL (n / 10) ++ [UInt8.ofNat (48 + n % 10)] := by rw [digL, dif_neg h]
theorem isDig_of {n : Nat} (h : n < 10) : isDig (UInt8.ofNat (48 + n)) = true := by
  unfold isDig
  rw [UInt8.toNat_ofNat_of_lt' (by show _ < 256; omega)]
  simp; omega
theorem digL_all (n : Nat) : ∀ c ∈ digL n, isDig c = true := by
  induction n using Nat.strongRecOn with
  | ind n ih =>
    intro c hc
    by_cases h : n < 10
    · rw [digL_small h] at hc
      simp only [List.mem_singleton] at hc
      subst hc
      exact isDig_of h
    · rw [digL_big h] at hc
      rcases List.mem_append.1 hc with hc | hc
      · exact ih (n / 10) (by omega) c hc
      · simp only [List.mem_singleton] at hc
        subst hc
        exact isDig_of (by omega)
theorem digL_val (n : Nat) : val (digL n) = n := by
  induction n using Nat.strongRecOn with
  | ind n ih =>
    by_cases h : n < 10
    · rw [digL_small h]
      show 10 * 0 + ((UInt8.ofNat (48 + n)).toNat - 48) = n
      rw [UInt8.toNat_ofNat_of_lt' (by show _ < 256; omega)]
      omega
    · rw [digL_big h, val_snoc, ih (n / 10) (by omega), UInt8.toNat_ofNat_of_lt' (by show _ < 256; omega)]
      omega
theorem digL_len (k : Nat) : ∀ n, n < 10 ^ (k + 1) → (digL n).length ≤ k + 1 := by
  induction k with
  | zero => intro n h; rw [digL_small (by simpa using h)]; simp
  | succ k ih =>
    intro n h
    by_cases h10 : n < 10
    · rw [digL_small h10]; simp
    · rw [digL_big h10, List.length_append]
      have := ih (n / 10) (by rw [Nat.pow_succ] at h; omega)
      simp; omega
theorem digL_cons (n : Nat) : ∃ x t, digL n = x :: t ∧ isDig x = true := by
  have h := digL_all n
  cases hd : digL n with
  | nil =>
    exfalso
    by_cases h10 : n < 10
    · rw [digL_small h10] at hd; cases hd
    · rw [digL_big h10] at hd; simp at hd
  | cons x t => exact ⟨x, t, rfl, h x (by rw [hd]; simp)⟩

theorem digs_app {d r : Bs} (hd : ∀ c ∈ d, isDig c = true) (hr : digs r = []) : digs (d ++ r) = d := by
  unfold digs at hr ⊢
  rw [List.takeWhile_append_of_pos hd, hr, List.append_nil]

/-- Blanks, and nothing else. -/
def Bl (b : Bs) : Prop := ∀ c ∈ b, c = 32 ∨ c = 9
theorem Bl.nil : Bl [] := by intro c h; cases h
theorem Bl.cons {b : Bs} (h : Bl b) : Bl (32 :: b) := by
  intro c hc
  rcases List.mem_cons.1 hc with rfl | hc
  · exact .inl rfl
  · exact h c hc
theorem blanks_app {b r : Bs} (h : Bl b) : blanks (b ++ r) = blanks r := by
  induction b with
  | nil => rfl
  | cons x b ih =>
    have hx := h x (by simp)
    have := ih (fun c hc => h c (by simp [hc]))
    unfold blanks Lib.trimLeftS at this ⊢
    rw [List.cons_append, List.dropWhile_cons]
    rcases hx with rfl | rfl
    · exact this
    · exact this
theorem trim3_app {b r : Bs} (h : ∀ c ∈ b, c = 32 ∨ c = 9 ∨ c = 58) : Lib.trimLeftS (b ++ r) [32, 9, 58] = Lib.trimLeftS r [32, 9, 58] := by
  induction b with
  | nil => rfl
  | cons x b ih =>
    have hx := h x (by simp)
    have := ih (fun c hc => h c (by simp [hc]))
    unfold Lib.trimLeftS at this ⊢
    rw [List.cons_append, List.dropWhile_cons]
    rcases hx with rfl | rfl | rfl
    · exact this
    · exact this
    · exact this
theorem isDig_ne {x : UInt8} (h : isDig x = true) (n : UInt8) (hn : n.toNat < 48 ∨ 57 < n.toNat) : x ≠ n := by
  rintro rfl
  simp only [isDig, decide_eq_true_eq] at h
  omega
theorem blanks_stop {x : UInt8} {t : Bs} (h1 : x ≠ 32) (h2 : x ≠ 9) : blanks (x :: t) = x :: t := by
  unfold blanks Lib.trimLeftS
  rw [List.dropWhile_cons]
  simp [h1, h2]
theorem blanks_dig {x : UInt8} {t : Bs} (h : isDig x = true) : blanks (x :: t) = x :: t :=
  blanks_stop (isDig_ne h 32 (by decide)) (isDig_ne h 9 (by decide))
theorem blanks_all {b : Bs} (h : Bl b) : blanks b = [] := by
  have := blanks_app (r := []) h
  rw [List.append_nil] at this
  exact this
theorem digs_bl {b : Bs} (h : Bl b) : digs b = [] := by
  cases b with
  | nil => rfl
  | cons x t =>
    rw [digs_cons]
    rcases h x (by simp) with rfl | rfl <;> rfl
theorem blanks_digL {b r : Bs} (h : Bl b) (n : Nat) : blanks (b ++ (digL n ++ r)) = digL n ++ r := by
  obtain ⟨x, t, hx, hd⟩ := digL_cons n
  rw [blanks_app h, hx]
  exact blanks_dig hd
theorem numberC_digL {b p : Bs} (hb : Bl b) (hp : digs p = []) {n : Nat} (hn : n < 1000000000) (c : Cm) : numberC c (b ++ (digL n ++ p)) = some ({ c with count := (n : Int) }, p) := by
  have hl : (digL n).length ≤ 9 := digL_len 8 n hn
  obtain ⟨x, t, hx, hd⟩ := digL_cons n
  unfold numberC
  rw [blanks_digL hb]
  simp only
  rw [digs_app (digL_all n) hp, if_neg (by omega), if_neg (by rw [hx]; simp), digL_val, List.drop_left]
theorem registerC_digL {b p : Bs} (hb : Bl b) (n : Nat) (c : Cm) : registerC c (b ++ (digL n ++ p)) = (c, digL n ++ p) := by
  unfold registerC
  rw [blanks_digL hb]
  obtain ⟨x, t, hx, hd⟩ := digL_cons n
  rw [hx]
  simp only [List.cons_append, hd, if_true]

/-- The ten names of commands that take a number, and the command of each. -/
def numW : List Bs := [[100], [121], [106], [112], [117], [101, 97, 114, 108, 105, 101, 114], [108, 97, 116, 101, 114], [62], [60], [61]]
def numA : List Bs := [[], [], [], [], [], [], [], [62], [60], []]
def numCm (i : Fin 10) (n : Int) (v : Value) : Cm := ⟨v, numW[i]'(by simp [numW]), false, 0, n, .slice none 0 0, [], [], [], numA[i]'(by simp [numA])⟩
end Go.Proofs.YthajagmccaaanaaDoor
