/- A region that draws its order: its quiet operations (in a class of worlds) walked once in an order of one's own, then the rest, one behind the other. -/
import Derived.Deep.Quiet
import Derived.StillTail
import Derived.BigQuiet
import Derived.Test.YthajagmccaaanaaGreatDoorBase
namespace Go.Proofs.YthajagmccaaanaaGreatDoor
open Go.RowKit
theorem put_def (a : Act) (d : Option Tmp) (v : Value) : (a.put d v).defers = a.defers := by cases d <;> rfl

section
variable {P : Program} {ops : Array Oper} {md : Region.Mode} {C : World → Prop}

/-- What an operation waits for. -/
def pre (md : Region.Mode) (ops : Array Oper) (j : Nat) : List Nat :=
  match ops[j]? with
  | some o => (o.after.toList.filter (Region.binds md ·)).map (·.on)
  | none => []

def reach (md : Region.Mode) (ops : Array Oper) : Nat → List Nat → List Nat
  | 0, l => l
  | m + 1, l => reach md ops m ((l ++ l.flatMap (pre md ops)).eraseDups)

structure HInv (md : Region.Mode) (ops : Array Oper) (listed : Array Bool) : Prop where
  size : listed.size = ops.size
  closed : ∀ j oj, ops[j]? = some oj → listed.getD j false = true → ∀ e ∈ oj.after, Region.binds md e = true → listed.getD e.on false = true

theorem pre_listed {listed : Array Bool} (inv : HInv md ops listed) {j x : Nat} (h : listed.getD j false = true) (hx : x ∈ pre md ops j) : listed.getD x false = true := by
  unfold pre at hx
  split at hx
  · rename_i o ho
    obtain ⟨e, he, rfl⟩ := List.mem_map.1 hx
    obtain ⟨he1, he2⟩ := List.mem_filter.1 he
    exact inv.closed j o ho h e (by simpa using he1) he2
  · cases hx

theorem reach_listed {listed : Array Bool} (inv : HInv md ops listed) : ∀ (m : Nat) (l : List Nat), (∀ x ∈ l, listed.getD x false = true) → ∀ x ∈ reach md ops m l, listed.getD x false = true
  | 0, _, h => h
  | m + 1, l, h => by
    unfold reach
    refine reach_listed inv m _ fun x hx => ?_
    rw [List.mem_eraseDups, List.mem_append, List.mem_flatMap] at hx
    rcases hx with hx | ⟨j, hj, hx⟩
    · exact h x hx
    · exact pre_listed inv (h j hj) hx

theorem HInv.set {i : Nat} {listed : Array Bool} (inv : HInv md ops listed) (hi : i ∈ Region.ready md ops listed) : HInv md ops (listed.setIfInBounds i true) := by
  obtain ⟨_, oi, hoi, hall⟩ := mem_ready.1 hi
  refine ⟨by simp [inv.size], fun j oj hj hl e he hb => ?_⟩
  by_cases hij : i = j
  · subst hij
    have : oj = oi := Option.some.inj (hj.symm.trans hoi)
    subst this
    exact getD_set_true (hall e he hb)
  · rw [getD_set_ne false hij] at hl
    exact getD_set_true (inv.closed j oj hj hl e he hb)

/-- An operation that does not look at the world. -/
def isPure (o : Oper) : Bool := match o.op with | .move _ | .assign _ | .extract .. => true | _ => false

theorem run_extract (t : Value) (ix : Nat) {w w' : World} {v : Value} (h : (Instr.extract t ix).run P w = .ok v w') (w2 : World) : w' = w ∧ (Instr.extract t ix).run P w2 = .ok v w2 := by
  unfold Instr.extract at h ⊢
  split at h
  · split at h
    · simp at h ⊢
      simp [*]
    · simp at h
  · simp at h

theorem pure_run {o : Oper} {a : Act} {w0 : World} {v : Value} (hp : isPure o = true) (h : o.quietAt P a C w0 v) (w : World) : (execOp a.eval o).run P w = .ok (.value v) w := by
  unfold isPure at hp
  unfold Oper.quietAt at h
  cases ho : o.op <;> simp only [ho] at hp <;> try cases hp
  case move x => 
    rw [BigFrame.run_move x ho] at h ⊢
    rw [h.2]
  case assign x =>
    rw [BigFrame.run_assign x ho] at h ⊢
    rw [h.2]
  case extract x ix =>
    unfold execOp at h ⊢
    simp only [ho] at h ⊢
    simp only [Sem.run_bind, Sem.run_pure] at h ⊢
    cases hr : (Instr.extract (a.eval x) ix).run P w0 with
    | ok u w' =>
      rw [hr] at h
      simp only [Result.andThen, Oper.quietUpon] at h
      rw [(run_extract _ _ hr w).2, ← h.2]
      rfl
    | halt x w' =>
      rw [hr] at h
      simp only [Result.andThen, Oper.quietUpon] at h

/-- Each operation of the tail waits, through others, for each of the head that looks at the world. -/
def waitsAll (md : Region.Mode) (ops : Array Oper) (H D : List Nat) : Bool :=
  D.all fun t => let r := reach md ops ops.size (pre md ops t); H.all fun i => ((ops[i]?).map isPure).getD false || r.contains i

theorem tail_waitsC {H D : List Nat} {listed : Array Bool} (hw : waitsAll md ops H D = true) (inv : HInv md ops listed) {i : Nat} {o : Oper} (ho : ops[i]? = some o) (hp : isPure o = false) (hi : i ∈ H) (hun : listed.getD i true = false) {t : Nat} (ht : t ∈ D) : t ∉ Region.ready md ops listed := by
  intro hr
  obtain ⟨_, ot, hot, hall⟩ := mem_ready.1 hr
  have h1 := List.all_eq_true.1 (List.all_eq_true.1 hw t ht) i hi
  have h2 : i ∈ reach md ops ops.size (pre md ops t) := by simpa [ho, hp] using h1
  have h3 := reach_listed inv ops.size (pre md ops t) (fun x hx => by
    unfold pre at hx
    simp only [hot] at hx
    obtain ⟨e, he, rfl⟩ := List.mem_map.1 hx
    obtain ⟨he1, he2⟩ := List.mem_filter.1 he
    exact hall e (by simpa using he1) he2) i h2
  rw [getD_both hun] at h3
  cases h3

def wpF (P : Program) (md : Region.Mode) (ops : Array Oper) (C : World → Prop) (Q : Exit → Act → World → Prop) (D : List Nat) : Nat → Array Bool → Act → Prop
  | 0, listed, a => Region.ready md ops listed = [] ∧ ∀ w, C w → Q .normal a w
  | f + 1, listed, a =>
    (Region.ready md ops listed = [] → ∀ w, C w → Q .normal a w) ∧
    ∀ i ∈ Region.ready md ops listed, if i ∈ D then ∀ w, C w → wpOp P ops Q i (wpAny P md ops Q f (listed.setIfInBounds i true)) a w else qOp P ops C i (wpF P md ops C Q D f (listed.setIfInBounds i true)) a

section
variable {Q : Exit → Act → World → Prop}

theorem wpAny_of_wpF {D : List Nat} : ∀ (f : Nat) (listed : Array Bool) (a : Act) (w : World), C w → wpF P md ops C Q D f listed a → wpAny P md ops Q f listed a w
  | 0, _, _, _, hw, h => ⟨h.1, h.2 _ hw⟩
  | f + 1, listed, a, w, hw, h => ⟨fun h0 => h.1 h0 w hw, fun i hi => by
    have h1 := h.2 i hi
    by_cases hd : i ∈ D
    · rw [if_pos hd] at h1; exact h1 w hw
    · rw [if_neg hd] at h1; exact wpOp_of_qOp hw (fun a' w' hw' h' => wpAny_of_wpF f _ a' w' hw' h') h1⟩

theorem wpF_first {H D : List Nat} {i : Nat} {oi : Oper} {v : Value} {w0 : World} (hi : ops[i]? = some oi) (hsel : ∀ (j : Nat) (o : Oper) cs b, ops[j]? = some o → o.op ≠ .select cs b)
    (hQ : ∀ c a d v w, Q (.panic c) (a.put d v) w → Q (.panic c) a w)
    (hw : waitsAll md ops H D = true) (hin : i ∈ H) (hiD : i ∉ D) (hC0 : C w0) :
    ∀ (f : Nat) (listed : Array Bool) (a : Act), HInv md ops listed →
      (∀ j oj, ops[j]? = some oj → j ≠ i → listed.getD j true = false → (∀ e ∈ oj.after, Region.binds md e = true → e.on ≠ i) → oi.apart ops oj = true) →
      i ∈ Region.ready md ops listed → YieldsIn P ops C oi v a →
      wpF P md ops C Q D f (listed.setIfInBounds i true) (a.put oi.dst v) → wpF P md ops C Q D (f + 1) listed a := by
  intro f
  induction f with
  | zero =>
    intro listed a inv _ hr hy hH
    refine ⟨fun h => (by rw [h] at hr; cases hr), fun j hj => ?_⟩
    by_cases hji : j = i
    · subst hji; rw [if_neg hiD]; exact hy.qOp hi hH
    · have := ready_mono hj hji
      rw [hH.1] at this
      cases this
  | succ f ih =>
    intro listed a inv hfree hr hy hH
    have hun := (mem_ready.1 hr).1
    refine ⟨fun h => (by rw [h] at hr; cases hr), fun j hj => ?_⟩
    by_cases hji : j = i
    · subst hji; rw [if_neg hiD]; exact hy.qOp hi hH
    · have h1 := hH.2 j (ready_mono hj hji)
      obtain ⟨hjun, oj, hoj, hall⟩ := mem_ready.1 hj
      have hnot : ∀ e ∈ oj.after, Region.binds md e = true → e.on ≠ i := fun e he hb heq => by
        have h1 := hall e he hb
        rw [heq, getD_both hun] at h1
        cases h1
      have hap := hfree j oj hoj hji hjun hnot
      have hfree' : ∀ k ok, ops[k]? = some ok → k ≠ i → (listed.setIfInBounds j true).getD k true = false →
          (∀ e ∈ ok.after, Region.binds md e = true → e.on ≠ i) → oi.apart ops ok = true := fun k ok hk hki hun hno => by
        refine hfree k ok hk hki ?_ hno
        by_cases hjk : j = k
        · subst hjk; exact hjun
        · rw [getD_set_ne true hjk] at hun; exact hun
      by_cases hjD : j ∈ D
      · rw [if_pos hjD] at h1 ⊢
        have hp : isPure oi = true := by
          cases hb : isPure oi with
          | true => rfl
          | false => exact absurd hj (tail_waitsC hw inv hi hb hin hun hjD)
        have hY : Yields P ops oi v a := by
          rcases hy with ⟨hwd, hv⟩ | ⟨hwd, hv⟩
          · exact .inl ⟨hwd, fun w => pure_run hp (hv w0 hC0) w⟩
          · exact .inr ⟨hwd, hv⟩
        intro w hwC
        have h2 := wpOp_put hoj hap (fun cs b => hsel i oi cs b hi) (fun cs b => hsel j oj cs b hoj) (fun c a w => hQ c a _ v w) hY (h1 w hwC)
        refine wpOp_mono (fun a' w' h3 => wpAny_first hi hsel (fun c a w => hQ c a _ v w) f (listed.setIfInBounds j true) a' w' hfree' (ready_mono hr (Ne.symm hji)) h3.1 ?_) h2
        rw [Array.setIfInBounds_comm _ _ hji]
        exact h3.2
      · rw [if_neg hjD] at h1 ⊢
        have h2 := qOp_put hoj hap (fun cs b => hsel i oi cs b hi) (fun cs b => hsel j oj cs b hoj) hy h1
        refine qOp_mono (fun a' h3 => ih (listed.setIfInBounds j true) a' (inv.set hj) hfree' (ready_mono hr (Ne.symm hji)) h3.1 ?_) h2
        rw [Array.setIfInBounds_comm _ _ hji]
        exact h3.2

/-- The tail comes up in this order and in no other. -/
def seqO (md : Region.Mode) (ops : Array Oper) : List Nat → Array Bool → Bool
  | [], listed => (Region.ready md ops listed).isEmpty
  | k :: r, listed => decide (Region.ready md ops listed = [k]) && seqO md ops r (listed.setIfInBounds k true)

theorem wpAny_of_seqO {Q' : Exit → Act → World → Prop} : ∀ (l : List Oper) (r : List Nat) (listed : Array Bool) (a : Act) (w : World), r.map (ops[·]?) = l.map some →
    seqO md ops r listed = true → wpList P ops Q' l a w → wpAny P md ops Q' l.length listed a w
  | [], [], _, _, _, _, hB, h => ⟨by simpa [seqO] using hB, h⟩
  | [], _ :: _, _, _, _, hl, _, _ => by simp at hl
  | _ :: _, [], _, _, _, hl, _, _ => by simp at hl
  | o :: l, k :: r, listed, a, w, hl, hB, h => by
    simp only [List.map_cons, List.cons.injEq] at hl
    simp only [seqO, Bool.and_eq_true, decide_eq_true_eq] at hB
    refine ⟨fun h1 => (by rw [hB.1] at h1; cases h1), fun i hi => ?_⟩
    rw [hB.1] at hi
    have hik : i = k := by simpa using hi
    subst hik
    have hw : wpOp P ops Q' i (wpList P ops Q' l) a w := by unfold wpOp; simp only [hl.1]; exact h
    exact wpOp_mono (fun a' w' h' => wpAny_of_seqO l r _ a' w' hl.2 hB.2 h') hw

def headO (md : Region.Mode) (ops : Array Oper) (D : List Nat) : List Nat → Array Bool → Bool
  | [], listed => seqO md ops D listed
  | k :: r, listed => (Region.ready md ops listed).contains k && Region.free md ops listed k && !D.contains k && headO md ops D r (listed.setIfInBounds k true)

def ordB (md : Region.Mode) (ops : Array Oper) (H D : List Nat) : Bool :=
  Region.noSelect ops && decide (H.length + D.length = ops.size) && waitsAll md ops H D && headO md ops D H (Array.replicate ops.size false)

theorem seqO_ready {D : List Nat} {listed : Array Bool} (h : seqO md ops D listed = true) : ∀ j ∈ Region.ready md ops listed, j ∈ D := by
  intro j hj
  cases D with
  | nil =>
    simp only [seqO, List.isEmpty_iff] at h
    rw [h] at hj
    cases hj
  | cons k r =>
    simp only [seqO, Bool.and_eq_true, decide_eq_true_eq] at h
    rw [h.1] at hj
    simp only [List.mem_singleton] at hj
    simp [hj]

theorem wpF_of_tail {D : List Nat} {g : Nat} {listed : Array Bool} {a : Act} (hr : ∀ j ∈ Region.ready md ops listed, j ∈ D) (w0 : World) (hC0 : C w0) (h : ∀ w, C w → wpAny P md ops Q g listed a w) : wpF P md ops C Q D g listed a := by
  cases g with
  | zero => exact ⟨(h w0 hC0).1, fun w hw => (h w hw).2⟩
  | succ g => exact ⟨fun h0 w hw => (h w hw).1 h0, fun i hi => by rw [if_pos (hr i hi)]; exact fun w hw => (h w hw).2 i hi⟩

theorem wpF_ord {H D : List Nat} {lt : List Oper} {w0 : World} (hsel : Region.noSelect ops = true) (hQ : ∀ c a d v w, Q (.panic c) (a.put d v) w → Q (.panic c) a w) (hw : waitsAll md ops H D = true) (hC0 : C w0) (ht : D.map (ops[·]?) = lt.map some) :
    ∀ (l : List Oper) (r : List Nat) (listed : Array Bool) (a : Act), r.map (ops[·]?) = l.map some → (∀ x ∈ r, x ∈ H) → HInv md ops listed →
    headO md ops D r listed = true → wpQuiet P ops C (fun a' => ∀ w', C w' → wpList P ops Q lt a' w') l a →
    wpF P md ops C Q D (l.length + lt.length) listed a
  | [], [], listed, a, _, _, _, hB, h => by
    rw [List.length_nil, Nat.zero_add]
    exact wpF_of_tail (seqO_ready (by simpa [headO] using hB)) w0 hC0 fun w hwC => wpAny_of_seqO lt D listed a w ht (by simpa [headO] using hB) (h w hwC)
  | [], _ :: _, _, _, hl, _, _, _, _ => by simp at hl
  | _ :: _, [], _, _, hl, _, _, _, _ => by simp at hl
  | o :: l, k :: r, listed, a, hl, hm, inv, hB, h => by
    simp only [List.map_cons, List.cons.injEq] at hl
    have h0 := hl.1
    simp only [headO, Bool.and_eq_true] at hB
    obtain ⟨⟨⟨hr, hf⟩, hkD⟩, hB'⟩ := hB
    have hkD' : k ∉ D := by simpa using hkD
    have hr' : k ∈ Region.ready md ops listed := by simpa using hr
    have hst : qOp P ops C k (wpQuiet P ops C (fun a' => ∀ w', C w' → wpList P ops Q lt a' w') l) a := by unfold qOp; simp only [h0]; exact h
    obtain ⟨v, hy, hK⟩ := yieldsIn_of_qOp h0 hst
    rw [List.length_cons, show l.length + 1 + lt.length = (l.length + lt.length) + 1 by omega]
    exact wpF_first h0 (Region.noSelect_spec hsel) hQ hw (hm k (by simp)) hkD' hC0 (l.length + lt.length) listed a inv (Region.free_spec h0 hf) hr' hy
      (wpF_ord hsel hQ hw hC0 ht l r _ _ hl.2 (fun x hx => hm x (by simp [hx])) (inv.set hr') hB' hK)

/-- The head's operations are quiet in C; what follows them is asked in each world of C. -/
theorem wp_region_ord {id : Nat} {a : Act} {w : World} {l lh lt : List Oper} (H D : List Nat) (hm : P.follows .mixedOrders = true) (hB : ordB .any l.toArray H D = true) (hQ : ∀ c a d v w, Q (.panic c) (a.put d v) w → Q (.panic c) a w)
    (hh : H.map (l.toArray[·]?) = lh.map some) (ht : D.map (l.toArray[·]?) = lt.map some) (hC : C { w with drawn := w.drawn + 1 })
    (h : wpQuiet P l.toArray C (fun a' => ∀ w', C w' → wpList P l.toArray Q lt a' w') lh a) : (Code.region id l.toArray true).wp P Q a w := by
  simp only [ordB, Bool.and_eq_true, decide_eq_true_eq] at hB
  obtain ⟨⟨⟨hsel, hn⟩, hw⟩, hlex⟩ := hB
  have inv0 : HInv .any l.toArray (Array.replicate l.toArray.size false) :=
    ⟨by simp, fun j oj _ hl => (by rw [getD_replicate_false] at hl; cases hl)⟩
  have hH := wpF_ord (C := C) (md := .any) hsel hQ hw hC ht lh H _ a hh (fun x hx => hx) inv0 hlex h
  refine wp_region_any hm ?_
  have hlh : lh.length = H.length := by have := congrArg List.length hh; simpa using this.symm
  have hlt : lt.length = D.length := by have := congrArg List.length ht; simpa using this.symm
  rw [hlh, hlt, hn] at hH
  exact wpAny_of_wpF _ _ _ _ hC hH
end
end

theorem name_world {Q : World → Prop} (w : World) (h : ∀ W, W = w → Q W) : Q w := h w rfl

/-! ### The class: all old blocks are as they were -/

/-- A world behind quiet work in W: what was there is as it was. -/
structure After (W : World) where
  w : World
  h : Mod (fun _ => False) W w

instance {W : World} : Nonempty (After W) := ⟨⟨W, Mod.refl _ _⟩⟩

theorem After.cell {W : World} (u : After W) {p : Addr} {v : Value} (h : W.cell? p = some v) : u.w.cell? p = some v :=
  (World.cell?_of_block (w := W) (u.h.block p.block (World.block_lt_of_cell? W p h) (fun c => c))).trans h
theorem After.frozen {W : World} (u : After W) {p : Addr} {x : Bool} (hp : p.block < W.heap.size) (h : W.frozen? p = x) : u.w.frozen? p = x :=
  (World.frozen?_of_block (w := W) (u.h.block p.block hp (fun c => c))).trans h
@[go_sem] theorem After.cell_eq {W : World} (u : After W) (p : Addr) (hp : p.block < W.heap.size) : u.w.cell? p = W.cell? p :=
  World.cell?_of_block (w := W) (u.h.block p.block hp (fun c => c))
@[go_sem] theorem After.frozen_eq {W : World} (u : After W) (p : Addr) (hp : p.block < W.heap.size) : u.w.frozen? p = W.frozen? p :=
  World.frozen?_of_block (w := W) (u.h.block p.block hp (fun c => c))
theorem After.get {W : World} (u : After W) {k : Nat} {o : Obj} (h : W.heap[k]? = some o) : u.w.heap[k]? = some o := u.h.get h (fun c => c)
def After.on {W : World} (u : After W) {w' : World} (h : Mod (fun _ => False) u.w w') : After W := ⟨w', u.h.trans h⟩
theorem After.calls {P : Program} {f : FuncId} {args : Array Value} {W : World} {u : After W} {v : Value}
    (h : Calls P f args u.w fun e w' => e = .returned v ∧ Mod (fun _ => False) u.w w') : Calls P f args u.w fun e w'' => e = .returned v ∧ ∃ u' : After W, w'' = u'.w :=
  h.mono fun _ _ ⟨he, hm⟩ => ⟨he, u.on hm, rfl⟩
theorem After.calls_below {P : Program} {f : FuncId} {args : Array Value} {W : World} {u : After W} {v : Value}
    (h : Calls P f args u.w fun e w' => e = .returned v ∧ Below u.w.heap.size u.w w') : Calls P f args u.w fun e w'' => e = .returned v ∧ ∃ u' : After W, w'' = u'.w :=
  h.mono fun _ _ ⟨he, hm⟩ => ⟨he, u.on (Mod.of_below hm), rfl⟩
theorem After.calls_drew {P : Program} {f : FuncId} {args : Array Value} {W : World} {u : After W} {v : Value}
    (h : Calls P f args u.w fun e w' => e = .returned v ∧ ∃ n, w' = u.w.drewN n) : Calls P f args u.w fun e w'' => e = .returned v ∧ ∃ u' : After W, w'' = u'.w :=
  h.mono fun _ _ ⟨he, n, hm⟩ => ⟨he, u.on (hm ▸ (Mod.refl _ _).drewN n), rfl⟩
theorem After.calls_same {P : Program} {f : FuncId} {args : Array Value} {W : World} {u : After W} {v : Value}
    (h : Calls P f args u.w fun e w' => e = .returned v ∧ u.w = w') : Calls P f args u.w fun e w'' => e = .returned v ∧ ∃ u' : After W, w'' = u'.w :=
  h.mono fun _ _ ⟨he, hm⟩ => ⟨he, u, hm.symm⟩
theorem After.calls_eq {P : Program} {f : FuncId} {args : Array Value} {W : World} {u : After W} {v : Value}
    (h : Calls P f args u.w fun e w' => e = .returned v ∧ w' = u.w) : Calls P f args u.w fun e w'' => e = .returned v ∧ ∃ u' : After W, w'' = u'.w :=
  h.mono fun _ _ ⟨he, hm⟩ => ⟨he, u, hm⟩

/-- The operations at these places. -/
def picks (l : List Oper) : List Nat → List Oper
  | [] => []
  | i :: r => l.getD i default :: picks l r
theorem picks_nil (l : List Oper) : picks l [] = [] := rfl
theorem picks_cons (l : List Oper) (i : Nat) (r : List Nat) : picks l (i :: r) = l.getD i default :: picks l r := rfl
theorem picks_map (l : List Oper) : ∀ H : List Nat, H.all (fun i => decide (i < l.length)) = true → H.map (l.toArray[·]?) = (picks l H).map some
  | [], _ => rfl
  | i :: r, h => by
    simp only [List.all_cons, Bool.and_eq_true, decide_eq_true_eq] at h
    simp only [List.map_cons, picks, List.cons.injEq]
    refine ⟨?_, picks_map l r h.2⟩
    simp [h.1]

theorem wp_region_after {P : Program} {id : Nat} {Q : Exit → Act → World → Prop} {a : Act} {w : World} {l : List Oper} (H D : List Nat) (hm : P.follows .mixedOrders = true)
    (hB : (ordB .any l.toArray H D && (H.all (fun i => decide (i < l.length)) && D.all (fun i => decide (i < l.length)))) = true) (hQ : ∀ c a d v w, Q (.panic c) (a.put d v) w → Q (.panic c) a w)
    (h : wpQuiet P l.toArray (fun w' => ∃ u : After w, w' = u.w) (fun a' => ∀ w', (∃ u : After w, w' = u.w) → wpList P l.toArray Q (picks l D) a' w') (picks l H) a) : (Code.region id l.toArray true).wp P Q a w := by
  simp only [Bool.and_eq_true] at hB
  exact wp_region_ord (C := fun w' => ∃ u : After w, w' = u.w) H D hm hB.1 hQ (picks_map l H hB.2.1) (picks_map l D hB.2.2) ⟨⟨{ w with drawn := w.drawn + 1 }, ⟨rfl, rfl, rfl, Nat.le_refl _, fun _ _ _ => rfl⟩⟩, rfl⟩ h

theorem wp_region_after_all {P : Program} {id : Nat} {Q : Exit → Act → World → Prop} {a : Act} {w : World} {l : List Oper} (hm : P.follows .mixedOrders = true) (hB : Region.lexB .any l.toArray = true)
    (h : wpQuiet P l.toArray (fun w' => ∃ u : After w, w' = u.w) (fun a' => ∀ w', (∃ u : After w, w' = u.w) → Q .normal a' w') l a) : (Code.region id l.toArray true).wp P Q a w :=
  wp_region_quiet (C := fun w' => ∃ u : After w, w' = u.w) hm hB ⟨⟨{ w with drawn := w.drawn + 1 }, ⟨rfl, rfl, rfl, Nat.le_refl _, fun _ _ _ => rfl⟩⟩, rfl⟩ (by simpa using h)
end Go.Proofs.YthajagmccaaanaaGreatDoor
