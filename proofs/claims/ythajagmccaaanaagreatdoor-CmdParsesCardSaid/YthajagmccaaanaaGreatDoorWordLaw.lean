/- Plain law: a long name reads as the short one. -/
import Derived.Test.YthajagmccaaanaaGreatDoorRv
namespace Go.Proofs.YthajagmccaaanaaGreatDoor
open Go

/-- What begins with no small letter. -/
def nol : Bs → Prop
  | [] => True
  | y :: _ => ∀ c : UInt8, 97 ≤ c → c ≤ 122 → y ≠ c
theorem hp_nil (l : Bs) : Lib.hasPrefix l [] = true := by simp [Lib.hasPrefix]
theorem hp_cons (a b : UInt8) (l p : Bs) : Lib.hasPrefix (a :: l) (b :: p) = ((b == a) && Lib.hasPrefix l p) := by simp [Lib.hasPrefix, List.isPrefixOf]
theorem hp_end (b : UInt8) (p : Bs) : Lib.hasPrefix [] (b :: p) = false := by simp [Lib.hasPrefix, List.isPrefixOf]
theorem hp_nol {m : Bs} (h : nol m) (b : UInt8) (p : Bs) (h1 : 97 ≤ b) (h2 : b ≤ 122) : Lib.hasPrefix m (b :: p) = false := by
  cases m with
  | nil => exact hp_end b p
  | cons y r =>
    rw [hp_cons]
    have := h b h1 h2
    simp [Ne.symm this]
theorem nameC_word (c : Cm) (x : UInt8) (t : Bs) (h1 : x ≠ 62 ∧ x ≠ 60) (h2 : [38, 126, 64, 61].contains x = false) {p : Bs × Bs} (h3 : wordIn (x :: t) (wordsAt x) = some p) : nameC c (x :: t) = some ({ c with name := p.2 }, (x :: t).drop p.1.length) := by
  unfold nameC
  simp only
  rw [if_neg (fun h => h.elim h1.1 h1.2)]
  have h38 : x ≠ 38 := by rintro rfl; simp at h2
  rw [if_neg (by rw [hp_cons]; simp [Ne.symm h38]), h2, h3]
  simp
theorem name_w0 (c : Cm) (m : Bs) (_h : nol m) : nameC c (100 :: 101 :: 108 :: 101 :: 116 :: 101 :: m) = some ({ c with name := [100] }, m) :=
  nameC_word c 100 _ (by decide) (by decide) (p := ([100, 101, 108, 101, 116, 101], [100])) (by
    rw [show wordsAt 100 = [([100, 101, 108, 101, 116, 101], [100]), ([100], [100])] from rfl]
    simp [wordIn, hp_cons, hp_nil])
theorem name_w1 (c : Cm) (m : Bs) (h : nol m) : nameC c (100 :: m) = some ({ c with name := [100] }, m) :=
  nameC_word c 100 _ (by decide) (by decide) (p := ([100], [100])) (by
    rw [show wordsAt 100 = [([100, 101, 108, 101, 116, 101], [100]), ([100], [100])] from rfl]
    simp [wordIn, hp_cons, hp_nil, hp_nol h])
theorem name_w2 (c : Cm) (m : Bs) (_h : nol m) : nameC c (109 :: 111 :: 118 :: 101 :: m) = some ({ c with name := [109] }, m) :=
  nameC_word c 109 _ (by decide) (by decide) (p := ([109, 111, 118, 101], [109])) (by
    rw [show wordsAt 109 = [([109, 111, 118, 101], [109]), ([109, 97, 114, 107], [107]), ([109], [109])] from rfl]
    simp [wordIn, hp_cons, hp_nil])
theorem name_w3 (c : Cm) (m : Bs) (h : nol m) : nameC c (109 :: m) = some ({ c with name := [109] }, m) :=
  nameC_word c 109 _ (by decide) (by decide) (p := ([109], [109])) (by
    rw [show wordsAt 109 = [([109, 111, 118, 101], [109]), ([109, 97, 114, 107], [107]), ([109], [109])] from rfl]
    simp [wordIn, hp_cons, hp_nil, hp_nol h])
theorem name_w4 (c : Cm) (m : Bs) (_h : nol m) : nameC c (99 :: 111 :: 112 :: 121 :: m) = some ({ c with name := [116] }, m) :=
  nameC_word c 99 _ (by decide) (by decide) (p := ([99, 111, 112, 121], [116])) (by
    rw [show wordsAt 99 = [([99, 111, 112, 121], [116]), ([99, 111], [116])] from rfl]
    simp [wordIn, hp_cons, hp_nil])
theorem name_w5 (c : Cm) (m : Bs) (_h : nol m) : nameC c (116 :: m) = some ({ c with name := [116] }, m) :=
  nameC_word c 116 _ (by decide) (by decide) (p := ([116], [116])) (by
    rw [show wordsAt 116 = [([116], [116])] from rfl]
    simp [wordIn, hp_cons, hp_nil])
theorem name_w6 (c : Cm) (m : Bs) (h : nol m) : nameC c (99 :: 111 :: m) = some ({ c with name := [116] }, m) :=
  nameC_word c 99 _ (by decide) (by decide) (p := ([99, 111], [116])) (by
    rw [show wordsAt 99 = [([99, 111, 112, 121], [116]), ([99, 111], [116])] from rfl]
    simp [wordIn, hp_cons, hp_nil, hp_nol h])
theorem name_w7 (c : Cm) (m : Bs) (_h : nol m) : nameC c (106 :: 111 :: 105 :: 110 :: m) = some ({ c with name := [106] }, m) :=
  nameC_word c 106 _ (by decide) (by decide) (p := ([106, 111, 105, 110], [106])) (by
    rw [show wordsAt 106 = [([106, 111, 105, 110], [106]), ([106], [106])] from rfl]
    simp [wordIn, hp_cons, hp_nil])
theorem name_w8 (c : Cm) (m : Bs) (h : nol m) : nameC c (106 :: m) = some ({ c with name := [106] }, m) :=
  nameC_word c 106 _ (by decide) (by decide) (p := ([106], [106])) (by
    rw [show wordsAt 106 = [([106, 111, 105, 110], [106]), ([106], [106])] from rfl]
    simp [wordIn, hp_cons, hp_nil, hp_nol h])
theorem name_w9 (c : Cm) (m : Bs) (_h : nol m) : nameC c (121 :: 97 :: 110 :: 107 :: m) = some ({ c with name := [121] }, m) :=
  nameC_word c 121 _ (by decide) (by decide) (p := ([121, 97, 110, 107], [121])) (by
    rw [show wordsAt 121 = [([121, 97, 110, 107], [121]), ([121], [121])] from rfl]
    simp [wordIn, hp_cons, hp_nil])
theorem name_w10 (c : Cm) (m : Bs) (h : nol m) : nameC c (121 :: m) = some ({ c with name := [121] }, m) :=
  nameC_word c 121 _ (by decide) (by decide) (p := ([121], [121])) (by
    rw [show wordsAt 121 = [([121, 97, 110, 107], [121]), ([121], [121])] from rfl]
    simp [wordIn, hp_cons, hp_nil, hp_nol h])
theorem name_w11 (c : Cm) (m : Bs) (_h : nol m) : nameC c (112 :: 117 :: 116 :: m) = some ({ c with name := [112, 117] }, m) :=
  nameC_word c 112 _ (by decide) (by decide) (p := ([112, 117, 116], [112, 117])) (by
    rw [show wordsAt 112 = [([112, 114, 105, 110, 116], [112]), ([112, 117, 116], [112, 117]), ([112, 117], [112, 117]), ([112], [112])] from rfl]
    simp [wordIn, hp_cons, hp_nil])
theorem name_w12 (c : Cm) (m : Bs) (h : nol m) : nameC c (112 :: 117 :: m) = some ({ c with name := [112, 117] }, m) :=
  nameC_word c 112 _ (by decide) (by decide) (p := ([112, 117], [112, 117])) (by
    rw [show wordsAt 112 = [([112, 114, 105, 110, 116], [112]), ([112, 117, 116], [112, 117]), ([112, 117], [112, 117]), ([112], [112])] from rfl]
    simp [wordIn, hp_cons, hp_nil, hp_nol h])
theorem name_w13 (c : Cm) (m : Bs) (_h : nol m) : nameC c (109 :: 97 :: 114 :: 107 :: m) = some ({ c with name := [107] }, m) :=
  nameC_word c 109 _ (by decide) (by decide) (p := ([109, 97, 114, 107], [107])) (by
    rw [show wordsAt 109 = [([109, 111, 118, 101], [109]), ([109, 97, 114, 107], [107]), ([109], [109])] from rfl]
    simp [wordIn, hp_cons, hp_nil])
theorem name_w14 (c : Cm) (m : Bs) (_h : nol m) : nameC c (107 :: m) = some ({ c with name := [107] }, m) :=
  nameC_word c 107 _ (by decide) (by decide) (p := ([107], [107])) (by
    rw [show wordsAt 107 = [([107], [107])] from rfl]
    simp [wordIn, hp_cons, hp_nil])
theorem name_w15 (c : Cm) (m : Bs) (_h : nol m) : nameC c (115 :: 117 :: 98 :: 115 :: 116 :: 105 :: 116 :: 117 :: 116 :: 101 :: m) = some ({ c with name := [115] }, m) :=
  nameC_word c 115 _ (by decide) (by decide) (p := ([115, 117, 98, 115, 116, 105, 116, 117, 116, 101], [115])) (by
    rw [show wordsAt 115 = [([115, 117, 98, 115, 116, 105, 116, 117, 116, 101], [115]), ([115], [115])] from rfl]
    simp [wordIn, hp_cons, hp_nil])
theorem name_w16 (c : Cm) (m : Bs) (h : nol m) : nameC c (115 :: m) = some ({ c with name := [115] }, m) :=
  nameC_word c 115 _ (by decide) (by decide) (p := ([115], [115])) (by
    rw [show wordsAt 115 = [([115, 117, 98, 115, 116, 105, 116, 117, 116, 101], [115]), ([115], [115])] from rfl]
    simp [wordIn, hp_cons, hp_nil, hp_nol h])
theorem name_w17 (c : Cm) (m : Bs) (_h : nol m) : nameC c (103 :: 108 :: 111 :: 98 :: 97 :: 108 :: m) = some ({ c with name := [103] }, m) :=
  nameC_word c 103 _ (by decide) (by decide) (p := ([103, 108, 111, 98, 97, 108], [103])) (by
    rw [show wordsAt 103 = [([103, 108, 111, 98, 97, 108], [103]), ([103], [103])] from rfl]
    simp [wordIn, hp_cons, hp_nil])
theorem name_w18 (c : Cm) (m : Bs) (h : nol m) : nameC c (103 :: m) = some ({ c with name := [103] }, m) :=
  nameC_word c 103 _ (by decide) (by decide) (p := ([103], [103])) (by
    rw [show wordsAt 103 = [([103, 108, 111, 98, 97, 108], [103]), ([103], [103])] from rfl]
    simp [wordIn, hp_cons, hp_nil, hp_nol h])
theorem name_w19 (c : Cm) (m : Bs) (_h : nol m) : nameC c (118 :: 103 :: 108 :: 111 :: 98 :: 97 :: 108 :: m) = some ({ c with name := [118] }, m) :=
  nameC_word c 118 _ (by decide) (by decide) (p := ([118, 103, 108, 111, 98, 97, 108], [118])) (by
    rw [show wordsAt 118 = [([118, 103, 108, 111, 98, 97, 108], [118]), ([118], [118])] from rfl]
    simp [wordIn, hp_cons, hp_nil])
theorem name_w20 (c : Cm) (m : Bs) (h : nol m) : nameC c (118 :: m) = some ({ c with name := [118] }, m) :=
  nameC_word c 118 _ (by decide) (by decide) (p := ([118], [118])) (by
    rw [show wordsAt 118 = [([118, 103, 108, 111, 98, 97, 108], [118]), ([118], [118])] from rfl]
    simp [wordIn, hp_cons, hp_nil, hp_nol h])
theorem name_w21 (c : Cm) (m : Bs) (_h : nol m) : nameC c (110 :: 111 :: 114 :: 109 :: 97 :: 108 :: m) = some ({ c with name := [110, 111, 114, 109] }, m) :=
  nameC_word c 110 _ (by decide) (by decide) (p := ([110, 111, 114, 109, 97, 108], [110, 111, 114, 109])) (by
    rw [show wordsAt 110 = [([110, 111, 114, 109, 97, 108], [110, 111, 114, 109]), ([110, 111, 114, 109], [110, 111, 114, 109])] from rfl]
    simp [wordIn, hp_cons, hp_nil])
theorem name_w22 (c : Cm) (m : Bs) (h : nol m) : nameC c (110 :: 111 :: 114 :: 109 :: m) = some ({ c with name := [110, 111, 114, 109] }, m) :=
  nameC_word c 110 _ (by decide) (by decide) (p := ([110, 111, 114, 109], [110, 111, 114, 109])) (by
    rw [show wordsAt 110 = [([110, 111, 114, 109, 97, 108], [110, 111, 114, 109]), ([110, 111, 114, 109], [110, 111, 114, 109])] from rfl]
    simp [wordIn, hp_cons, hp_nil, hp_nol h])
theorem name_w23 (c : Cm) (m : Bs) (_h : nol m) : nameC c (117 :: 110 :: 100 :: 111 :: m) = some ({ c with name := [117] }, m) :=
  nameC_word c 117 _ (by decide) (by decide) (p := ([117, 110, 100, 111], [117])) (by
    rw [show wordsAt 117 = [([117, 110, 100, 111], [117]), ([117], [117])] from rfl]
    simp [wordIn, hp_cons, hp_nil])
theorem name_w24 (c : Cm) (m : Bs) (h : nol m) : nameC c (117 :: m) = some ({ c with name := [117] }, m) :=
  nameC_word c 117 _ (by decide) (by decide) (p := ([117], [117])) (by
    rw [show wordsAt 117 = [([117, 110, 100, 111], [117]), ([117], [117])] from rfl]
    simp [wordIn, hp_cons, hp_nil, hp_nol h])
theorem name_w25 (c : Cm) (m : Bs) (_h : nol m) : nameC c (114 :: 101 :: 100 :: 111 :: m) = some ({ c with name := [114, 101, 100] }, m) :=
  nameC_word c 114 _ (by decide) (by decide) (p := ([114, 101, 100, 111], [114, 101, 100])) (by
    rw [show wordsAt 114 = [([114, 101, 100, 111], [114, 101, 100]), ([114, 101, 100], [114, 101, 100])] from rfl]
    simp [wordIn, hp_cons, hp_nil])
theorem name_w26 (c : Cm) (m : Bs) (h : nol m) : nameC c (114 :: 101 :: 100 :: m) = some ({ c with name := [114, 101, 100] }, m) :=
  nameC_word c 114 _ (by decide) (by decide) (p := ([114, 101, 100], [114, 101, 100])) (by
    rw [show wordsAt 114 = [([114, 101, 100, 111], [114, 101, 100]), ([114, 101, 100], [114, 101, 100])] from rfl]
    simp [wordIn, hp_cons, hp_nil, hp_nol h])
theorem name_w27 (c : Cm) (m : Bs) (_h : nol m) : nameC c (112 :: 114 :: 105 :: 110 :: 116 :: m) = some ({ c with name := [112] }, m) :=
  nameC_word c 112 _ (by decide) (by decide) (p := ([112, 114, 105, 110, 116], [112])) (by
    rw [show wordsAt 112 = [([112, 114, 105, 110, 116], [112]), ([112, 117, 116], [112, 117]), ([112, 117], [112, 117]), ([112], [112])] from rfl]
    simp [wordIn, hp_cons, hp_nil])
theorem name_w28 (c : Cm) (m : Bs) (h : nol m) : nameC c (112 :: m) = some ({ c with name := [112] }, m) :=
  nameC_word c 112 _ (by decide) (by decide) (p := ([112], [112])) (by
    rw [show wordsAt 112 = [([112, 114, 105, 110, 116], [112]), ([112, 117, 116], [112, 117]), ([112, 117], [112, 117]), ([112], [112])] from rfl]
    simp [wordIn, hp_cons, hp_nil, hp_nol h])
theorem name_w29 (c : Cm) (m : Bs) (_h : nol m) : nameC c (101 :: 97 :: 114 :: 108 :: 105 :: 101 :: 114 :: m) = some ({ c with name := [101, 97, 114, 108, 105, 101, 114] }, m) :=
  nameC_word c 101 _ (by decide) (by decide) (p := ([101, 97, 114, 108, 105, 101, 114], [101, 97, 114, 108, 105, 101, 114])) (by
    rw [show wordsAt 101 = [([101, 97, 114, 108, 105, 101, 114], [101, 97, 114, 108, 105, 101, 114])] from rfl]
    simp [wordIn, hp_cons, hp_nil])
theorem name_w30 (c : Cm) (m : Bs) (_h : nol m) : nameC c (108 :: 97 :: 116 :: 101 :: 114 :: m) = some ({ c with name := [108, 97, 116, 101, 114] }, m) :=
  nameC_word c 108 _ (by decide) (by decide) (p := ([108, 97, 116, 101, 114], [108, 97, 116, 101, 114])) (by
    rw [show wordsAt 108 = [([108, 97, 116, 101, 114], [108, 97, 116, 101, 114])] from rfl]
    simp [wordIn, hp_cons, hp_nil])
def longW : List Bs := [[100, 101, 108, 101, 116, 101], [109, 111, 118, 101], [99, 111, 112, 121], [99, 111], [106, 111, 105, 110], [121, 97, 110, 107], [112, 117, 116], [109, 97, 114, 107], [115, 117, 98, 115, 116, 105, 116, 117, 116, 101], [103, 108, 111, 98, 97, 108], [118, 103, 108, 111, 98, 97, 108], [110, 111, 114, 109, 97, 108], [117, 110, 100, 111], [114, 101, 100, 111], [112, 114, 105, 110, 116]]
def shortW : List Bs := [[100], [109], [116], [116], [106], [121], [112, 117], [107], [115], [103], [118], [110, 111, 114, 109], [117], [114, 101, 100], [112]]
theorem words_same (i : Nat) (hi : i < 15) (m : Bs) (hm : nol m) (hl : m.length ≤ 100) (v : Value) : parseR v ((longW[i]'hi) ++ m) = parseR v ((shortW[i]'hi) ++ m) := by
  match i, hi with
  | 0, _ =>
    show parseR v (100 :: 101 :: 108 :: 101 :: 116 :: 101 :: m) = parseR v (100 :: m)
    rw [parseR_letter (by decide) (by simp; omega), parseR_letter (by decide) (by simp; omega)]
    unfold bodyL
    rw [name_w0 _ m hm, name_w1 _ m hm]
  | 1, _ =>
    show parseR v (109 :: 111 :: 118 :: 101 :: m) = parseR v (109 :: m)
    rw [parseR_letter (by decide) (by simp; omega), parseR_letter (by decide) (by simp; omega)]
    unfold bodyL
    rw [name_w2 _ m hm, name_w3 _ m hm]
  | 2, _ =>
    show parseR v (99 :: 111 :: 112 :: 121 :: m) = parseR v (116 :: m)
    rw [parseR_letter (by decide) (by simp; omega), parseR_letter (by decide) (by simp; omega)]
    unfold bodyL
    rw [name_w4 _ m hm, name_w5 _ m hm]
  | 3, _ =>
    show parseR v (99 :: 111 :: m) = parseR v (116 :: m)
    rw [parseR_letter (by decide) (by simp; omega), parseR_letter (by decide) (by simp; omega)]
    unfold bodyL
    rw [name_w6 _ m hm, name_w5 _ m hm]
  | 4, _ =>
    show parseR v (106 :: 111 :: 105 :: 110 :: m) = parseR v (106 :: m)
    rw [parseR_letter (by decide) (by simp; omega), parseR_letter (by decide) (by simp; omega)]
    unfold bodyL
    rw [name_w7 _ m hm, name_w8 _ m hm]
  | 5, _ =>
    show parseR v (121 :: 97 :: 110 :: 107 :: m) = parseR v (121 :: m)
    rw [parseR_letter (by decide) (by simp; omega), parseR_letter (by decide) (by simp; omega)]
    unfold bodyL
    rw [name_w9 _ m hm, name_w10 _ m hm]
  | 6, _ =>
    show parseR v (112 :: 117 :: 116 :: m) = parseR v (112 :: 117 :: m)
    rw [parseR_letter (by decide) (by simp; omega), parseR_letter (by decide) (by simp; omega)]
    unfold bodyL
    rw [name_w11 _ m hm, name_w12 _ m hm]
  | 7, _ =>
    show parseR v (109 :: 97 :: 114 :: 107 :: m) = parseR v (107 :: m)
    rw [parseR_letter (by decide) (by simp; omega), parseR_letter (by decide) (by simp; omega)]
    unfold bodyL
    rw [name_w13 _ m hm, name_w14 _ m hm]
  | 8, _ =>
    show parseR v (115 :: 117 :: 98 :: 115 :: 116 :: 105 :: 116 :: 117 :: 116 :: 101 :: m) = parseR v (115 :: m)
    rw [parseR_letter (by decide) (by simp; omega), parseR_letter (by decide) (by simp; omega)]
    unfold bodyL
    rw [name_w15 _ m hm, name_w16 _ m hm]
  | 9, _ =>
    show parseR v (103 :: 108 :: 111 :: 98 :: 97 :: 108 :: m) = parseR v (103 :: m)
    rw [parseR_letter (by decide) (by simp; omega), parseR_letter (by decide) (by simp; omega)]
    unfold bodyL
    rw [name_w17 _ m hm, name_w18 _ m hm]
  | 10, _ =>
    show parseR v (118 :: 103 :: 108 :: 111 :: 98 :: 97 :: 108 :: m) = parseR v (118 :: m)
    rw [parseR_letter (by decide) (by simp; omega), parseR_letter (by decide) (by simp; omega)]
    unfold bodyL
    rw [name_w19 _ m hm, name_w20 _ m hm]
  | 11, _ =>
    show parseR v (110 :: 111 :: 114 :: 109 :: 97 :: 108 :: m) = parseR v (110 :: 111 :: 114 :: 109 :: m)
    rw [parseR_letter (by decide) (by simp; omega), parseR_letter (by decide) (by simp; omega)]
    unfold bodyL
    rw [name_w21 _ m hm, name_w22 _ m hm]
  | 12, _ =>
    show parseR v (117 :: 110 :: 100 :: 111 :: m) = parseR v (117 :: m)
    rw [parseR_letter (by decide) (by simp; omega), parseR_letter (by decide) (by simp; omega)]
    unfold bodyL
    rw [name_w23 _ m hm, name_w24 _ m hm]
  | 13, _ =>
    show parseR v (114 :: 101 :: 100 :: 111 :: m) = parseR v (114 :: 101 :: 100 :: m)
    rw [parseR_letter (by decide) (by simp; omega), parseR_letter (by decide) (by simp; omega)]
    unfold bodyL
    rw [name_w25 _ m hm, name_w26 _ m hm]
  | 14, _ =>
    show parseR v (112 :: 114 :: 105 :: 110 :: 116 :: m) = parseR v (112 :: m)
    rw [parseR_letter (by decide) (by simp; omega), parseR_letter (by decide) (by simp; omega)]
    unfold bodyL
    rw [name_w27 _ m hm, name_w28 _ m hm]
end Go.Proofs.YthajagmccaaanaaGreatDoor
