/- A map with bytes for keys: what an insertion and a look-up do. The table of names. -/
import Derived.Test.YthajagmccaaanaaGreatDoorReader5
import Derived.ChangeMaps5
import Derived.MapKept
namespace Go.Proofs.YthajagmccaaanaaGreatDoor
open Go.RowKit
open Go.ChangeMaps (setBlock)

abbrev Ws := List (Bs × Bs)
def wcells (ws : Ws) : List Value := ws.flatMap fun p => [.string ⟨p.1.toArray⟩, .string ⟨p.2.toArray⟩]
def wval (g : Nat) (ws : Ws) : Value := .slice (some ⟨g, 0, none⟩) ws.length ws.length

/-- What a map's entries are, with the rows that they lead to. -/
def Ents (T : TypeId) (W : World) : List (UInt8 × Ws) → Nat → List MapEntry → Prop
  | [], _, es => es = []
  | (c, ws) :: l, i, es => ∃ g es', es = { key := .int .u8 (c.toNat : Int), val := wval g ws, born := i } :: es' ∧ W.heap[g]? = some (.cells (wcells ws).toArray T (0, 0)) ∧ Ents T W l (i + 1) es'

theorem Ents.snoc {T : TypeId} {W : World} {c : UInt8} {ws : Ws} {g : Nat} (hg : W.heap[g]? = some (.cells (wcells ws).toArray T (0, 0))) : ∀ {l : List (UInt8 × Ws)} {i : Nat} {es : List MapEntry}, Ents T W l i es →
    Ents T W (l ++ [(c, ws)]) i (es ++ [{ key := .int .u8 (c.toNat : Int), val := wval g ws, born := i + l.length }])
  | [], i, es, h => by
    have h : es = [] := h
    subst h
    exact ⟨g, [], rfl, hg, rfl⟩
  | (d, vs) :: l, i, es, h => by
    obtain ⟨g', es', rfl, hg', h'⟩ := h
    refine ⟨g', _, rfl, hg', ?_⟩
    have := Ents.snoc (c := c) hg h'
    rw [List.length_cons, show i + (l.length + 1) = i + 1 + l.length by omega]
    exact this
theorem Ents.frame {T : TypeId} {W W' : World} (hw : ∀ (g : Nat) (cs : Array Value), W.heap[g]? = some (Obj.cells cs T (0, 0)) → W'.heap[g]? = some (Obj.cells cs T (0, 0))) : ∀ {l : List (UInt8 × Ws)} {i : Nat} {es : List MapEntry}, Ents T W l i es → Ents T W' l i es
  | [], _, _, h => h
  | (_, _) :: _, _, _, ⟨g, es', e, hg, h'⟩ => ⟨g, es', e, hw _ _ hg, Ents.frame hw h'⟩

def findW (c : UInt8) : List (UInt8 × Ws) → Option Ws
  | [] => none
  | (d, ws) :: l => if c = d then some ws else findW c l

theorem Ents.find {T : TypeId} {W : World} (c : UInt8) {k : IntKind} : ∀ {l : List (UInt8 × Ws)} {i : Nat} {es : List MapEntry} (j : Nat), Ents T W l i es →
    match findW c l with
    | none => Instr.findNow (.int k) (.int .u8 (c.toNat : Int)) es j = some none
    | some ws => ∃ n g, Instr.findNow (.int k) (.int .u8 (c.toNat : Int)) es j = some (some (n, wval g ws)) ∧ W.heap[g]? = some (.cells (wcells ws).toArray T (0, 0))
  | [], i, es, j, h => by
    have h : es = [] := h
    subst h
    rfl
  | (d, ws) :: l, i, es, j, h => by
    obtain ⟨g, es', rfl, hg, h'⟩ := h
    unfold findW
    by_cases hcd : c = d
    · subst hcd
      rw [if_pos rfl]
      refine ⟨j, g, ?_, hg⟩
      simp [Instr.findNow, Instr.sameNow]
    · rw [if_neg hcd]
      have hne : ((c.toNat : Int) == (d.toNat : Int)) = false := by
        rw [beq_eq_false_iff_ne]
        intro hh
        exact hcd (UInt8.toNat_inj.1 (by omega))
      have hs : Instr.findNow (.int k) (.int .u8 (c.toNat : Int)) ({ key := .int .u8 (d.toNat : Int), val := wval g ws, born := i } :: es') j = Instr.findNow (.int k) (.int .u8 (c.toNat : Int)) es' (j + 1) := by
        simp [Instr.findNow, Instr.sameNow, hne]
      have := Ents.find c (k := k) (j + 1) h'
      rw [hs]
      exact this

section
variable {P : Program} {t kt e T : TypeId} {w W : World} {r : Nat} {l : List (UInt8 × Ws)} {k : IntKind}

theorem run_checkKey_int (ht : P.underlying kt = some (.int k)) (b : Bool) (n : Nat) (v : Value) (w : World) : (Instr.checkKey b (n + 1) kt v).run P w = .ok () w := by
  simp only [Instr.checkKey, Sem.run_bind, run_underlying ht, Result.andThen_ok]
  rfl
theorem run_findKey_now {key : Value} {es : List MapEntry} {x : Option (Nat × Value)} (ht : P.underlying kt = some (.int k)) (h : Instr.findNow (.int k) key es 0 = some x) (w : World) : (Instr.findKey kt key es).run P w = .ok x w := by
  simp only [Instr.findKey, Sem.run_bind, run_underlying ht, Result.andThen_ok, h]
  rfl

/-- The map in block r has these entries; nothing below w's memory has turned. -/
def MapW (T : TypeId) (w : World) (r : Nat) (l : List (UInt8 × Ws)) (W : World) : Prop :=
  Below w.heap.size w W ∧ w.heap.size ≤ r ∧ ∃ es : List MapEntry, W.heap[r]? = some (.map es.toArray l.length) ∧ Ents T W l 0 es

theorem MapW.insert (hu : P.underlying t = some (.map kt e)) (hk : P.underlying kt = some (.int k)) (h : MapW T w r l W) {c : UInt8} (ws : Ws) (hc : findW c l = none) :
    ∃ W', MapW T w r (l ++ [(c, ws)]) W' ∧ (Instr.mapUpdate t (.map (some r)) (.int .u8 (c.toNat : Int)) (wval W.heap.size ws)).run P (W.alloc (.cells (wcells ws).toArray T (0, 0))) = .ok () W' := by
  obtain ⟨hb, hr, es, hm, he⟩ := h
  have hf := Ents.find c (k := k) 0 he
  rw [hc] at hf
  have hsz := lt_of_blk hm
  have hm' : (W.alloc (.cells (wcells ws).toArray T (0, 0))).heap[r]? = some (.map es.toArray l.length) := blk_alloc hm _
  have hg : (W.alloc (.cells (wcells ws).toArray T (0, 0))).heap[W.heap.size]? = some (.cells (wcells ws).toArray T (0, 0)) := blk_new W _
  have heT : Ents T (W.alloc (.cells (wcells ws).toArray T (0, 0))) l 0 es := he.frame fun g cs hh => blk_alloc hh _
  have hfar : ∀ (o : Obj) (k' : Nat), k' ≠ r → (setBlock (W.alloc (.cells (wcells ws).toArray T (0, 0))) r o).heap[k']? = (W.alloc (.cells (wcells ws).toArray T (0, 0))).heap[k']? := by
    intro o k' hk'
    simp [setBlock, Ne.symm hk']
  have hcell : ∀ (o : Obj) (g : Nat) (cs : Array Value), (W.alloc (.cells (wcells ws).toArray T (0, 0))).heap[g]? = some (Obj.cells cs T (0, 0)) → (setBlock (W.alloc (.cells (wcells ws).toArray T (0, 0))) r o).heap[g]? = some (Obj.cells cs T (0, 0)) := by
    intro o g cs hh
    rw [hfar o g (by rintro rfl; rw [hm'] at hh; cases hh)]
    exact hh
  refine ⟨setBlock (W.alloc (.cells (wcells ws).toArray T (0, 0))) r (.map (es ++ [({ key := .int .u8 (c.toNat : Int), val := wval W.heap.size ws, born := 0 + l.length } : MapEntry)]).toArray (l.length + 1)), ⟨?_, hr, _, ?_, (heT.frame (hcell _)).snoc (hcell _ _ _ hg)⟩, ?_⟩
  · refine ⟨hb.os, hb.tape, hb.output, ?_, fun i hi => ?_⟩
    · have := hb.size
      simp [setBlock]
      omega
    · rw [hfar _ i (by omega)]
      exact (Below.heap_alloc _ _ _ (by have := hb.size; omega)).trans (hb.block i hi)
  · have : r < (W.alloc (.cells (wcells ws).toArray T (0, 0))).heap.size := lt_of_blk hm'
    unfold setBlock
    rw [Array.getElem?_setIfInBounds_self_of_lt this]
    simp
  · unfold Instr.mapUpdate
    simp only [Sem.run_bind, run_underlying hu, Result.andThen_ok, Go.MapKept.run_getObj_map hm', run_checkKey_int hk, run_findKey_now hk hf, Go.MapKept.run_setObj_map _ hm']
    simp [setBlock]

/-- A slice over a row of names. -/
def WordsV (T : TypeId) (v : Value) (ws : Ws) (W : World) : Prop :=
  ∃ A, v = .slice A ws.length ws.length ∧ (ws ≠ [] → ∃ g, A = some ⟨g, 0, none⟩ ∧ W.heap[g]? = some (.cells (wcells ws).toArray T (0, 0)))

theorem MapW.look {y : TypeId} (hu : P.underlying t = some (.map kt e)) (hk : P.underlying kt = some (.int k)) (_hz : P.underlying e = some (.slice y)) (hzero : ∀ w, (zeroValue e).run P w = .ok (.slice none 0 0) w) (h : MapW T w r l W) (c : UInt8) :
    ∃ v, (Instr.lookup t (.map (some r)) (.int .u8 (c.toNat : Int)) false).run P W = .ok v W ∧ WordsV T v ((findW c l).getD []) W := by
  obtain ⟨hb, hr, es, hm, he⟩ := h
  have hf := Ents.find c (k := k) 0 he
  cases hc : findW c l with
  | none =>
    rw [hc] at hf
    refine ⟨.slice none 0 0, ?_, none, rfl, fun h => absurd rfl h⟩
    unfold Instr.lookup
    simp [Sem.run_bind, run_underlying hu, Go.MapKept.run_getObj_map hm, run_checkKey_int hk, run_findKey_now hk hf, hzero]
  | some ws =>
    rw [hc] at hf
    obtain ⟨n, g, hf, hg⟩ := hf
    refine ⟨wval g ws, ?_, _, rfl, fun _ => ⟨g, rfl, hg⟩⟩
    unfold Instr.lookup
    simp [Sem.run_bind, run_underlying hu, Go.MapKept.run_getObj_map hm, run_checkKey_int hk, run_findKey_now hk hf]
end

def tbl : List (UInt8 × Ws) := [
  (99, [([99, 111, 112, 121], [116]), ([99, 111], [116])]),
  (100, [([100, 101, 108, 101, 116, 101], [100]), ([100], [100])]),
  (101, [([101, 97, 114, 108, 105, 101, 114], [101, 97, 114, 108, 105, 101, 114])]),
  (103, [([103, 108, 111, 98, 97, 108], [103]), ([103], [103])]),
  (106, [([106, 111, 105, 110], [106]), ([106], [106])]),
  (107, [([107], [107])]),
  (108, [([108, 97, 116, 101, 114], [108, 97, 116, 101, 114])]),
  (109, [([109, 111, 118, 101], [109]), ([109, 97, 114, 107], [107]), ([109], [109])]),
  (110, [([110, 111, 114, 109, 97, 108], [110, 111, 114, 109]), ([110, 111, 114, 109], [110, 111, 114, 109])]),
  (112, [([112, 114, 105, 110, 116], [112]), ([112, 117, 116], [112, 117]), ([112, 117], [112, 117]), ([112], [112])]),
  (114, [([114, 101, 100, 111], [114, 101, 100]), ([114, 101, 100], [114, 101, 100])]),
  (115, [([115, 117, 98, 115, 116, 105, 116, 117, 116, 101], [115]), ([115], [115])]),
  (116, [([116], [116])]),
  (117, [([117, 110, 100, 111], [117]), ([117], [117])]),
  (118, [([118, 103, 108, 111, 98, 97, 108], [118]), ([118], [118])]),
  (121, [([121, 97, 110, 107], [121]), ([121], [121])])]
/-- The names that begin with a byte, the longer ones first. -/
def wordsAt (c : UInt8) : Ws := (findW c tbl).getD []
end Go.Proofs.YthajagmccaaanaaGreatDoor
