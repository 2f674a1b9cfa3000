/- The blocks that a call has made for itself, known whole: one predicate with its rules. -/
import Derived.Test.YtjoplgdcpihmaaaMem2
import Derived.Test.YtjoplgdcpihmaaaHeadI
import Derived.Laws.OwnMore
namespace Go.Proofs.Ytjoplgdcpihmaaa
open Go.RowKit

/-- From the world w on the call has made the blocks bl, one behind the other; below them nothing has turned. -/
def Fr (w W : World) (bl : List (Array Value × TypeId)) : Prop :=
  Below w.heap.size w W ∧ w.heap.size + bl.length ≤ W.heap.size ∧ ∀ i C t, bl[i]? = some (C, t) → W.heap[w.heap.size + i]? = some (.cells C t (0, 0))
namespace Fr
variable {w W W' : World} {bl : List (Array Value × TypeId)}
theorem nil (w : World) : Fr w w [] := ⟨Below.refl _ _, by simp, fun i C t h => by simp at h⟩
theorem bel (h : Fr w W bl) : Below w.heap.size w W := h.1
theorem block (h : Fr w W bl) {i : Nat} {C : Array Value} {t : TypeId} {b : Nat} (hi : bl[i]? = some (C, t)) (hb : b = w.heap.size + i) : W.heap[b]? = some (.cells C t (0, 0)) := by subst hb; exact h.2.2 i C t hi
theorem cells (h : Fr w W bl) {i : Nat} {C : Array Value} {t : TypeId} {b : Nat} (hi : bl[i]? = some (C, t)) (hb : b = w.heap.size + i) : ∀ j : Nat, W.cell? ⟨b, j, none⟩ = C[j]? := fun j => cell_of_row _ _ j _ _ _ (h.block hi hb)
theorem frees (h : Fr w W bl) {i : Nat} {C : Array Value} {t : TypeId} {b : Nat} (hi : bl[i]? = some (C, t)) (hb : b = w.heap.size + i) : ∀ j : Nat, W.frozen? ⟨b, j, none⟩ = false := fun j => free_of_row (h.block hi hb) j
theorem lt (h : Fr w W bl) {i b : Nat} (hi : i < bl.length) (hb : b = w.heap.size + i) : b < W.heap.size := by have := h.2.1; omega
theorem push (h : Fr w W bl) (hz : W.heap.size = w.heap.size + bl.length) (C : Array Value) (t : TypeId) : Fr w (W.alloc (.cells C t)) (bl ++ [(C, t)]) := by
  refine ⟨h.1.alloc (by omega) _, by simp; omega, fun i C' t' hi => ?_⟩
  rcases Nat.lt_or_ge i bl.length with hlt | hge
  · rw [List.getElem?_append_left hlt] at hi
    rw [Below.heap_alloc _ _ _ (by omega)]; exact h.2.2 i C' t' hi
  · have hl := (List.getElem?_eq_some_iff.1 hi).1
    simp at hl
    obtain rfl : i = bl.length := by omega
    simp at hi
    obtain ⟨rfl, rfl⟩ := hi
    rw [← hz]; exact heap_alloc_new W _
theorem one (w : World) (C : Array Value) (t : TypeId) : Fr w (w.alloc (.cells C t)) [(C, t)] := (nil w).push (by simp) C t
theorem two (w : World) (C C' : Array Value) (t t' : TypeId) : Fr w ((w.alloc (.cells C t)).alloc (.cells C' t')) [(C, t), (C', t')] := (one w C t).push (by simp) C' t'
theorem three (w : World) (C C' C2 : Array Value) (t t' t2 : TypeId) : Fr w (((w.alloc (.cells C t)).alloc (.cells C' t')).alloc (.cells C2 t2)) [(C, t), (C', t'), (C2, t2)] := (two w C C' t t').push (by simp) C2 t2
theorem drew (h : Fr w W bl) : Fr w W.drew bl := ⟨h.1.drew, h.2.1, h.2.2⟩
theorem below (h : Fr w W bl) (hb : Below W.heap.size W W') : Fr w W' bl :=
  ⟨h.1.trans (hb.mono h.1.size), Nat.le_trans h.2.1 hb.size, fun i C t hi => (hb.block _ (by have := h.2.1; have := (List.getElem?_eq_some_iff.1 hi).1; omega)).trans (h.2.2 i C t hi)⟩
theorem grown (h : Fr w W bl) {row : Option Nat} (hg : W.grownBy W' row) (hr : ∀ k, row = some k → w.heap.size + bl.length ≤ k) : Fr w W' bl :=
  ⟨h.1.grown hg h.1.size (fun k e => Nat.le_trans (Nat.le_add_right _ _) (hr k e)), Nat.le_trans h.2.1 hg.size, fun i C t hi => (hg.block _ (by have := h.2.1; have := (List.getElem?_eq_some_iff.1 hi).1; omega) (fun e => by have := hr _ e.symm; have := (List.getElem?_eq_some_iff.1 hi).1; omega)).trans (h.2.2 i C t hi)⟩
theorem alloc (h : Fr w W bl) (o : Obj) : Fr w (W.alloc o) bl := h.below ((Below.refl _ _).alloc (Nat.le_refl _) _)
/-- A store into block i. -/
theorem set (h : Fr w W bl) {i : Nat} {C : Array Value} {t : TypeId} {b : Nat} (hi : bl[i]? = some (C, t)) (hb : b = w.heap.size + i) (j : Nat) (u : Value) : Fr w (W.setCell ⟨b, j, none⟩ u) (bl.set i (C.setIfInBounds j u, t)) := by
  subst hb
  have hil := (List.getElem?_eq_some_iff.1 hi).1
  refine ⟨h.1.setCell (by simp) u, by simpa [World.setCell] using h.2.1, fun k C' t' hk => ?_⟩
  rw [List.getElem?_set] at hk
  by_cases hik : i = k
  · subst hik
    rw [if_pos rfl, if_pos hil] at hk
    simp only [Option.some.injEq, Prod.mk.injEq] at hk
    obtain ⟨rfl, rfl⟩ := hk
    exact heap_set (h.2.2 i C t hi) j u
  · rw [if_neg hik] at hk
    rw [Below.heap_setCell _ _ _ _ (by simp; omega)]
    exact h.2.2 k C' t' hk
/-- A store beyond the blocks. -/
theorem far (h : Fr w W bl) {p : Addr} (hp : w.heap.size + bl.length ≤ p.block) (u : Value) : Fr w (W.setCell p u) bl := by
  refine ⟨h.1.setCell (by omega) u, by simpa [World.setCell] using h.2.1, fun k C t hk => ?_⟩
  rw [Below.heap_setCell _ _ _ _ (by have := (List.getElem?_eq_some_iff.1 hk).1; omega)]
  exact h.2.2 k C t hk
theorem at' (h : Fr w W bl) {bl' : List (Array Value × TypeId)} (e : bl = bl') : Fr w W bl' := e ▸ h
/-- The first blocks alone. -/
theorem take (h : Fr w W bl) (n : Nat) : Fr w W (bl.take n) :=
  ⟨h.1, by have := h.2.1; rw [List.length_take]; omega, fun i C t hi => by
    rw [List.getElem?_take] at hi
    split at hi
    · exact h.2.2 i C t hi
    · cases hi⟩
end Fr
namespace El
variable {α : Type} {E : El α} {w W W' : World} {v : Value} {l : List α} {base : Nat} {bl : List (Array Value × TypeId)}
theorem Own.set (h : E.Own W base v l) {p : Addr} (hp : p.block < base) (u : Value) : E.Own (W.setCell p u) base v l :=
  h.kept (row := some p.block) ⟨rfl, rfl, rfl, by simp [World.setCell], fun _ _ hne => Below.heap_setCell _ _ _ _ (fun e => hne (by rw [e]))⟩ (h.ne _ hp)
theorem Own.drew (h : E.Own W base v l) : E.Own W.drew base v l := h
/-- append of one element inside a region that draws its order, the call's own blocks known. -/
theorem fr_step (E : El α) {ops : Array Oper} {o : Oper} {a : Act} {Q : Exit → Act → World → Prop} {K : Act → World → Prop} {E' : Prop}
    (h : Fr w W bl) (hO : E.Own W base v l) (hbase : base = w.heap.size + bl.length) (hl : (l.length + 1) * E.bytes ≤ 140737488355328) (hm : l.length + 1 ≤ 9223372036854775807) (y : α)
    (hgd : o.guard = none) (s x : Operand) (ho : o.op = .call { callee := .builtin .append, args := #[s, x], argTypes := #[E.t, E.t] }) (hs : a.eval s = v) (hx : a.eval x = .slice (some ⟨W.heap.size, 0, none⟩) 1 1)
    (cs : Array Value) (hcs : cs.toList = E.enc y)
    (k : ∀ A n c w', Fr w w' bl → E.Own w' base (.slice A n c) (l ++ [y]) → (W.alloc (.cells cs E.e)).grownBy w' v.ownBlock → K (a.put o.dst (.slice A n c)) w') :
    if Region.wanted o (yielded ops a.tmps) = true then Oper.wp Try.prog o a (W.alloc (.cells cs E.e)) K Q else E' := by
  have hz := h.2.1
  refine El.step E (w0 := W.alloc (.cells cs E.e)) hgd s x ho base v l y W.heap.size cs hs (hO.alloc _) hx (heap_alloc_new W _) hcs hl hm (by simp; omega) (Below.refl _ _) ?_
  intro v' w1 ho hb hg
  obtain ⟨A, c, rfl, _⟩ := ho.reads
  exact k _ _ _ w1 ((h.alloc _).grown hg (fun k e => by have := (hO.lt k e).1; omega)) ho hg
/-- The same at a plain list of operations, behind 'at_builtin'. -/
theorem fr_app (E : El α) {ops : Array Oper} {rest : List Oper} {o : Oper} {a : Act} {Q : Exit → Act → World → Prop}
    (h : Fr w W bl) (hO : E.Own W base v l) (hbase : base = w.heap.size + bl.length) (hl : (l.length + 1) * E.bytes ≤ 140737488355328) (hm : l.length + 1 ≤ 9223372036854775807) (y : α)
    (hgd : o.guard = none) (s x : Operand) (ho : o.op = .call { callee := .builtin .append, args := #[s, x], argTypes := #[E.t, E.t] }) (hs : a.eval s = v) (hx : a.eval x = .slice (some ⟨W.heap.size, 0, none⟩) 1 1)
    (cs : Array Value) (hcs : cs.toList = E.enc y)
    (k : ∀ A n c w', Fr w w' bl → E.Own w' base (.slice A n c) (l ++ [y]) → W.grownBy w' v.ownBlock → wpList Try.prog ops Q rest (a.put o.dst (.slice A n c)) w') :
    wpList Try.prog ops Q (o :: rest) a (W.alloc (.cells cs E.e)) := by
  have hz := h.2.1
  refine El.app E (w0 := W) hgd s x ho base v l y hs hO hx cs hcs hl hm (by omega) (Below.refl _ _) ?_
  intro v' w1 ho hb hg _
  obtain ⟨A, c, rfl, _⟩ := ho.reads
  exact k _ _ _ w1 (h.grown hg (fun k e => by have := (hO.lt k e).1; omega)) ho hg
theorem cells_set (E : El α) (l : List α) (i j : Nat) (x x' : α) (u : Value) (hi : l[i]? = some x) (hj : j < E.size) (he : E.enc x' = (E.enc x).set j u) : E.cells (l.set i x') = (E.cells l).set (i * E.size + j) u := by
  induction l generalizing i with
  | nil => simp at hi
  | cons y l ih =>
    cases i with
    | zero =>
      simp only [List.getElem?_cons_zero, Option.some.injEq] at hi
      subst hi
      rw [List.set_cons_zero, E.cells_cons, E.cells_cons, he, Nat.zero_mul, Nat.zero_add, List.set_append_left _ _ (by rw [E.len]; exact hj)]
    | succ i =>
      simp only [List.getElem?_cons_succ] at hi
      rw [List.set_cons_succ, E.cells_cons, E.cells_cons, ih i hi, List.set_append_right _ _ (by rw [E.len, Nat.add_mul]; omega), E.len, show (i + 1) * E.size + j - E.size = i * E.size + j by rw [Nat.add_mul]; omega]
/-- A store into an element's cell of a slice that the call owns. -/
theorem Own.store {g c : Nat} (h : E.Own W base (.slice (some ⟨g, 0, none⟩) l.length c) l) (i j : Nat) (x x' : α) (u : Value) (hi : l[i]? = some x) (hj : j < E.size) (he : E.enc x' = (E.enc x).set j u) :
    E.Own (W.setCell ⟨g, i * E.size + j, none⟩ u) base (.slice (some ⟨g, 0, none⟩) (l.set i x').length c) (l.set i x') := by
  show World.ownsRow _ _ _ _ _ _ _
  rw [E.cells_set l i j x x' u hi hj he, List.length_set]
  exact (World.ownsRow.stored h (i * E.size + j) u).1
theorem Own.atAddr {g c n : Nat} (h : E.Own W base (.slice (some ⟨g, 0, none⟩) n c) l) (hn : n = l.length) (i : Nat) (x : α) (hi : l[i]? = some x) : ∀ j u, (E.enc x)[j]? = some u → W.cell? ⟨g, i * E.size + j, none⟩ = some u ∧ W.frozen? ⟨g, i * E.size + j, none⟩ = false := by
  subst hn
  intro j u hu
  have hj : j < E.size := by
    have := (List.getElem?_eq_some_iff.1 hu).1
    rwa [E.len] at this
  have hil := (List.getElem?_eq_some_iff.1 hi).1
  have hk : i * E.size + j < l.length * E.size := by
    have : i * E.size + E.size ≤ l.length * E.size := by rw [← Nat.succ_mul]; exact Nat.mul_le_mul_right _ hil
    omega
  refine ⟨?_, World.ownsRow.frozenAt h _⟩
  rw [World.ownsRow.cellAt h _ hk, E.cells_get l i j x hi hj]; exact hu
end El
end Go.Proofs.Ytjoplgdcpihmaaa
