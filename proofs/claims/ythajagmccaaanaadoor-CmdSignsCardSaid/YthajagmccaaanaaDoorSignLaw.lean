/- Plain laws: a substitution between signs; a command with a number; addresses ahead. -/
import Derived.Test.YthajagmccaaanaaDoorDigLaw
namespace Go.Proofs.YthajagmccaaanaaDoor
open Go

theorem moreL_0 {c : Cm} {l : Bs} (h : cls c.name = 0) : moreL c l = ofOpt 151 (numberC (registerC c l).1 (registerC c l).2) := by unfold moreL; rw [h]; rfl
theorem moreL_2 {c : Cm} {l : Bs} (h : cls c.name = 2) : moreL c l = ofOpt 151 (numberC c l) := by unfold moreL; rw [h]; rfl
theorem moreL_5 {c : Cm} {l : Bs} (h : cls c.name = 5) : moreL c l = ofOpt 151 (subC c l) := by unfold moreL; rw [h]; rfl

theorem splitL_plain {x : UInt8} (hx : x ≠ 92) (r : Bs) : ∀ p : Bs, (∀ c ∈ p, c ≠ 92 ∧ c ≠ x) → splitL x (p ++ x :: r) = (p, p.length + 1) := by
  intro p
  induction p with
  | nil =>
    intro _
    cases r with
    | nil => simp [splitL]
    | cons y r => show splitL x (x :: y :: r) = _; rw [splitL, if_neg hx, if_pos rfl]; rfl
  | cons c p ih =>
    intro hp
    obtain ⟨h1, h2⟩ := hp c (by simp)
    have h3 := ih (fun d hd => hp d (by simp [hd]))
    rw [List.cons_append]
    cases hq : p ++ x :: r with
    | nil => simp at hq
    | cons y q =>
      rw [hq] at h3
      rw [splitL, if_neg h1, if_neg h2, h3]
      rfl

/-- A sign that the law takes. -/
def OkSign (x : UInt8) : Prop := 33 ≤ x.toNat ∧ x.toNat ≤ 64 ∧ ¬ (48 ≤ x.toNat ∧ x.toNat ≤ 57) ∧ x.toNat ≠ 34 ∧ x.toNat ≠ 38 ∧ x.toNat ≠ 35 ∧ x.toNat ≠ 33
theorem sign_tab : ∀ n : Fin 65, (33 ≤ n.val ∧ ¬ (48 ≤ n.val ∧ n.val ≤ 57) ∧ n.val ≠ 34 ∧ n.val ≠ 38 ∧ n.val ≠ 35 ∧ n.val ≠ 33) → isSign (UInt8.ofNat n.val) = true := by decide
theorem OkSign.is {x : UInt8} (h : OkSign x) : isSign x = true := by
  obtain ⟨h1, h2, h3, h4, h5, h6, h7⟩ := h
  have := sign_tab ⟨x.toNat, by omega⟩ ⟨h1, h3, h4, h5, h6, h7⟩
  simpa using this
theorem OkSign.ne {x : UInt8} (h : OkSign x) (n : UInt8) (hn : n.toNat < 33 ∨ 64 < n.toNat) : x ≠ n := by
  rintro rfl
  obtain ⟨h1, h2, _⟩ := h
  omega
theorem OkSign.nol {x : UInt8} (h : OkSign x) (t : Bs) : nol (x :: t) := by
  intro c h1 _
  refine h.ne c (.inr ?_)
  have : (97 : UInt8).toNat ≤ c.toNat := h1
  have h97 : (97 : UInt8).toNat = 97 := rfl
  omega
theorem subC_sign {x : UInt8} (h : OkSign x) {p r : Bs} (hp : ∀ c ∈ p, c ≠ 92 ∧ c ≠ x) (hr : ∀ c ∈ r, c ≠ 92 ∧ c ≠ x) (rest : Bs) (c : Cm) :
    subC c (x :: (p ++ x :: (r ++ x :: rest))) = flaggedC { c with pat := p, arg := [61], rep := r } rest := by
  have h92 : x ≠ 92 := h.ne 92 (by decide)
  have hs : signC (x :: (p ++ x :: (r ++ x :: rest))) = some (x, p ++ x :: (r ++ x :: rest)) := by
    unfold signC
    rw [blanks_stop (h.ne 32 (by decide)) (h.ne 9 (by decide))]
    simp only [h.is, if_true]
  have h1 := splitL_plain h92 (r ++ x :: rest) p hp
  have h2 := splitL_plain h92 rest r hr
  have d1 : (p ++ x :: (r ++ x :: rest)).drop (p.length + 1) = r ++ x :: rest := by
    rw [← List.drop_drop, List.drop_left]; rfl
  have d2 : (r ++ x :: rest).drop (r.length + 1) = rest := by
    rw [← List.drop_drop, List.drop_left]; rfl
  unfold subC
  rw [hs]
  simp only [h1, d1, h2, d2]
theorem flaggedC_gc (n : Nat) (hn : n < 1000000000) (c : Cm) : flaggedC c (103 :: 99 :: digL n) = some ({ c with flags := [103, 99], count := (n : Int) }, []) := by
  obtain ⟨x, t, hx, hd⟩ := digL_cons n
  have hf : isFlag x = false := by
    unfold isFlag
    simp only [List.contains_cons, List.contains_nil, Bool.or_false, Bool.or_eq_false_iff, beq_eq_false_iff_ne]
    exact ⟨isDig_ne hd 38 (by decide), isDig_ne hd 99 (by decide), isDig_ne hd 101 (by decide), isDig_ne hd 103 (by decide), isDig_ne hd 105 (by decide), isDig_ne hd 73 (by decide), isDig_ne hd 110 (by decide)⟩
  have hl : flagsL (103 :: 99 :: digL n) = [103, 99] := by
    rw [hx]
    show 103 :: 99 :: (x :: t).takeWhile isFlag = _
    rw [List.takeWhile_cons, hf]
    rfl
  unfold flaggedC
  rw [blanks_stop (by decide) (by decide), hl]
  have := numberC_digL Bl.nil (p := []) rfl hn { c with flags := [103, 99] }
  rw [List.nil_append, List.append_nil] at this
  exact this
theorem flaggedC_g (c : Cm) : flaggedC c [103] = some ({ c with flags := [103] }, []) := rfl

theorem sign_short {x : UInt8} (h : OkSign x) {p r : Bs} (hp : ∀ c ∈ p, c ≠ 92 ∧ c ≠ x) (hr : ∀ c ∈ r, c ≠ 92 ∧ c ≠ x) (n : Nat) (hn : n < 1000000000) (hl : p.length ≤ 200) (hl' : r.length ≤ 200) (v : Value) :
    parseR v (115 :: x :: (p ++ x :: (r ++ x :: (103 :: 99 :: digL n)))) = .ok (⟨v, [115], false, 0, n, .slice none 0 0, p, r, [103, 99], [61]⟩, [], []) := by
  have hd := digL_len 8 n hn
  rw [parseR_letter (by decide) (by simp; omega)]
  unfold bodyL
  rw [name_w16 _ _ (h.nol _)]
  simp only
  rw [bangC_no (.inr rfl)]
  simp only
  rw [moreL_5 rfl, subC_sign h hp hr, flaggedC_gc n hn]
  rfl
theorem sign_long {x : UInt8} (h : OkSign x) {p r : Bs} (hp : ∀ c ∈ p, c ≠ 92 ∧ c ≠ x) (hr : ∀ c ∈ r, c ≠ 92 ∧ c ≠ x) (hl : p.length ≤ 200) (hl' : r.length ≤ 200) (v : Value) :
    parseR v (115 :: 117 :: 98 :: 115 :: 116 :: 105 :: 116 :: 117 :: 116 :: 101 :: x :: (p ++ x :: (r ++ x :: [103]))) = .ok (⟨v, [115], false, 0, -1, .slice none 0 0, p, r, [103], [61]⟩, [], []) := by
  rw [parseR_letter (by decide) (by simp; omega)]
  unfold bodyL
  rw [name_w15 _ _ (h.nol _)]
  simp only
  rw [bangC_no (.inr rfl)]
  simp only
  rw [moreL_5 rfl, subC_sign h hp hr, flaggedC_g]
  rfl

theorem nol_blank (t : Bs) : nol (32 :: t) := by
  intro c h1 _ h
  subst h
  exact absurd h1 (by decide)
/-- What a command with a number reads as. -/
theorem num_body (i : Nat) (hi : i < 10) (v : Value) {b p : Bs} (hb : Bl b) (hp : Bl p) (n : Nat) (hn : n < 1000000000) :
    bodyL v [] (numW[i]'hi ++ 32 :: (b ++ (digL n ++ p))) = .ok (numCm ⟨i, hi⟩ n v, [], []) := by
  have key : ∀ (c c' : Cm), nameC (cmd0 v) (numW[i]'hi ++ 32 :: (b ++ (digL n ++ p))) = some (c, 32 :: (b ++ (digL n ++ p))) → cls c.name = 0 ∨ cls c.name = 2 → { c with count := (n : Int) } = c' →
      bodyL v [] (numW[i]'hi ++ 32 :: (b ++ (digL n ++ p))) = .ok (c', [], []) := by
    intro c c' h1 h2 h3
    unfold bodyL
    rw [h1]
    simp only
    rw [bangC_no (.inl rfl)]
    simp only
    have hq := registerC_digL (p := p) hb.cons n c
    have hr := numberC_digL hb.cons (digs_bl hp) hn c
    have hs := numberC_digL Bl.nil (digs_bl hp) hn c
    rw [List.nil_append] at hs
    rw [List.cons_append] at hq hr
    have hm : moreL c (32 :: (b ++ (digL n ++ p))) = .ok ({ c with count := (n : Int) }, [], p) := by
      rcases h2 with h2 | h2
      · rw [moreL_0 h2, hq]
        simp only
        rw [hs]
        rfl
      · rw [moreL_2 h2, hr]
        rfl
    rw [hm, h3]
    unfold endL
    simp only
    rw [blanks_all hp]
  match i, hi with
  | 0, _ => exact key _ _ (name_w1 _ _ (nol_blank _)) (.inl rfl) rfl
  | 1, _ => exact key _ _ (name_w10 _ _ (nol_blank _)) (.inl rfl) rfl
  | 2, _ => exact key _ _ (name_w8 _ _ (nol_blank _)) (.inr rfl) rfl
  | 3, _ => exact key _ _ (name_w28 _ _ (nol_blank _)) (.inr rfl) rfl
  | 4, _ => exact key _ _ (name_w24 _ _ (nol_blank _)) (.inr rfl) rfl
  | 5, _ => exact key _ _ (name_w29 _ _ (nol_blank _)) (.inr rfl) rfl
  | 6, _ => exact key _ _ (name_w30 _ _ (nol_blank _)) (.inr rfl) rfl
  | 7, _ => exact key { cmd0 v with arg := [62], name := [62] } _ rfl (.inr rfl) rfl
  | 8, _ => exact key { cmd0 v with arg := [60], name := [60] } _ rfl (.inr rfl) rfl
  | 9, _ => exact key { cmd0 v with name := [61] } _ rfl (.inr rfl) rfl
theorem num_head (i : Nat) (hi : i < 10) (r : Bs) : ∃ x t, numW[i]'hi ++ r = x :: t ∧ starts x = true := by
  match i, hi with
  | 0, _ => exact ⟨_, _, rfl, by decide⟩
  | 1, _ => exact ⟨_, _, rfl, by decide⟩
  | 2, _ => exact ⟨_, _, rfl, by decide⟩
  | 3, _ => exact ⟨_, _, rfl, by decide⟩
  | 4, _ => exact ⟨_, _, rfl, by decide⟩
  | 5, _ => exact ⟨_, _, rfl, by decide⟩
  | 6, _ => exact ⟨_, _, rfl, by decide⟩
  | 7, _ => exact ⟨_, _, rfl, by decide⟩
  | 8, _ => exact ⟨_, _, rfl, by decide⟩
  | 9, _ => exact ⟨_, _, rfl, by decide⟩
theorem numW_len (i : Nat) (hi : i < 10) : (numW[i]'hi).length ≤ 7 := by
  have : ∀ j : Fin 10, (numW[j.val]'j.2).length ≤ 7 := by decide
  exact this ⟨i, hi⟩
theorem rangeL_app {q r : Bs} (h : ∀ c ∈ q, c = 32 ∨ c = 9 ∨ c = 58) : rangeL (q ++ r) = rangeL r := by
  unfold rangeL
  rw [trim3_app h]
theorem num_plain (i : Nat) (hi : i < 10) (n : Nat) (hn : n < 1000000000) (v : Value) : parseR v (numW[i]'hi ++ 32 :: digL n) = .ok (numCm ⟨i, hi⟩ n v, [], []) := by
  have hd := digL_len 8 n hn
  have hw := numW_len i hi
  have := num_body i hi v Bl.nil Bl.nil n hn
  rw [List.nil_append, List.append_nil] at this
  obtain ⟨x, t, hx, hs⟩ := num_head i hi (32 :: digL n)
  rw [parseR_short (by simp; omega), hx, rangeL_letter x t hs, ← hx]
  exact this
theorem num_padded (i : Nat) (hi : i < 10) (n : Nat) (hn : n < 1000000000) {b : Bs} (hb : Bl b) (hl : b.length ≤ 5) (v : Value) :
    parseR v (b ++ 58 :: (b ++ (numW[i]'hi ++ 32 :: (b ++ (digL n ++ b))))) = .ok (numCm ⟨i, hi⟩ n v, [], []) := by
  have hd := digL_len 8 n hn
  have hw := numW_len i hi
  have := num_body i hi v hb hb n hn
  obtain ⟨x, t, hx, hs⟩ := num_head i hi (32 :: (b ++ (digL n ++ b)))
  have e : b ++ 58 :: (b ++ (numW[i]'hi ++ 32 :: (b ++ (digL n ++ b)))) = (b ++ 58 :: b) ++ (numW[i]'hi ++ 32 :: (b ++ (digL n ++ b))) := by simp
  rw [parseR_short (by simp; omega), e, rangeL_app (by
    intro c hc
    simp only [List.mem_append, List.mem_cons] at hc
    rcases hc with hc | rfl | hc
    · rcases hb c hc with h | h
      · exact .inl h
      · exact .inr (.inl h)
    · exact .inr (.inr rfl)
    · rcases hb c hc with h | h
      · exact .inl h
      · exact .inr (.inl h)), hx, rangeL_letter x t hs, ← hx]
  exact this

theorem starts_ne {x : UInt8} (h : starts x = true) (n : UInt8) (hn : starts n = false) : x ≠ n := by
  rintro rfl
  rw [h] at hn
  cases hn
theorem numL_digL {r : Bs} (hr : digs r = []) {n : Nat} (hn : n < 1000000000) : numL (digL n ++ r) = some (n, true, r) := by
  have hl : (digL n).length ≤ 9 := digL_len 8 n hn
  obtain ⟨x, t, hx, hd⟩ := digL_cons n
  have h0 : 0 < (digL n).length := by rw [hx]; simp
  unfold numL
  rw [digs_app (digL_all n) hr, if_neg (by omega), digL_val, List.drop_left, decide_eq_true h0]
theorem oneL_digL {r : Bs} {n : Nat} (hn : n < 1000000000) : oneL (digL n ++ 32 :: r) = some (⟨1, n, 0, [], 0, false⟩, true, 32 :: r) := by
  have hb : baseL (digL n ++ 32 :: r) = some (⟨1, n, 0, [], 0, false⟩, true, 32 :: r) := by
    unfold baseL
    rw [numL_digL rfl hn]
  have ho : offsL (32 :: r).length 0 true (32 :: r) = some (0, true, 32 :: r) := by
    rw [List.length_cons, offsL]
    simp
  unfold oneL
  rw [hb]
  simp only [ho]
theorem rangeL_two {a b : Nat} (ha : a < 1000000000) (hb : b < 1000000000) {x : UInt8} (hx : starts x = true) (t : Bs) :
    rangeL (32 :: 58 :: (digL a ++ 32 :: 44 :: 32 :: (digL b ++ 32 :: x :: t))) = some ([⟨1, a, 0, [], 0, false⟩, ⟨1, b, 0, [], 0, false⟩], x :: t) := by
  have h1 : rangeL (32 :: 58 :: (digL a ++ 32 :: 44 :: 32 :: (digL b ++ 32 :: x :: t))) = rangeL (digL a ++ 32 :: 44 :: 32 :: (digL b ++ 32 :: x :: t)) :=
    rangeL_app (q := [32, 58]) (by decide)
  rw [h1]
  have h2 : ∀ k, adsL (k + 1) [⟨1, a, 0, [], 0, false⟩] (digL b ++ 32 :: x :: t) = some ([⟨1, a, 0, [], 0, false⟩, ⟨1, b, 0, [], 0, false⟩], x :: t) := by
    intro k
    rw [adsL, oneL_digL hb]
    simp only
    have : blanks (32 :: x :: t) = x :: t := blanks_stop (starts_ne hx 32 (by decide)) (starts_ne hx 9 (by decide))
    rw [this]
    simp only
    rw [if_neg (by rintro (h | h); exact starts_ne hx 44 (by decide) h; exact starts_ne hx 59 (by decide) h)]
    rfl
  have h3 : ∀ k, adsL (k + 2) [] (digL a ++ 32 :: 44 :: 32 :: (digL b ++ 32 :: x :: t)) = some ([⟨1, a, 0, [], 0, false⟩, ⟨1, b, 0, [], 0, false⟩], x :: t) := by
    intro k
    rw [adsL, oneL_digL ha]
    simp only
    have e1 : blanks (32 :: 44 :: 32 :: (digL b ++ 32 :: x :: t)) = 44 :: 32 :: (digL b ++ 32 :: x :: t) := rfl
    have e2 : blanks (32 :: (digL b ++ 32 :: x :: t)) = digL b ++ 32 :: x :: t := blanks_digL (b := [32]) Bl.nil.cons b
    rw [e1]
    simp only
    rw [if_pos (by first | exact .inl rfl | exact .inl trivial | simp), e2]
    exact h2 k
  obtain ⟨y, r, hy, hd⟩ := digL_cons a
  unfold rangeL
  have e3 : Lib.trimLeftS (digL a ++ 32 :: 44 :: 32 :: (digL b ++ 32 :: x :: t)) [32, 9, 58] = digL a ++ 32 :: 44 :: 32 :: (digL b ++ 32 :: x :: t) := by
    rw [hy, List.cons_append]
    unfold Lib.trimLeftS
    rw [List.dropWhile_cons]
    simp [isDig_ne hd 32 (by decide), isDig_ne hd 9 (by decide), isDig_ne hd 58 (by decide)]
  rw [e3]
  rw [hy, List.cons_append] at h3 ⊢
  simp only
  rw [if_neg (isDig_ne hd 37 (by decide))]
  exact h3 _
theorem range_two {a b : Nat} (ha : a < 1000000000) (hb : b < 1000000000) {x : UInt8} (hx : starts x = true) (t : Bs) (hl : (x :: t).length ≤ 300) (v : Value) :
    parseR v (32 :: 58 :: (digL a ++ 32 :: 44 :: 32 :: (digL b ++ 32 :: x :: t))) = adsE [⟨1, a, 0, [], 0, false⟩, ⟨1, b, 0, [], 0, false⟩] (parseR v (x :: t)) := by
  have h1 := digL_len 8 a ha
  have h2 := digL_len 8 b hb
  rw [List.length_cons] at hl
  rw [parseR_short (by simp; omega), rangeL_two ha hb hx t, parseR_letter hx (by simp; omega)]
  exact bodyL_ads v [] _ _
end Go.Proofs.YthajagmccaaanaaDoor
