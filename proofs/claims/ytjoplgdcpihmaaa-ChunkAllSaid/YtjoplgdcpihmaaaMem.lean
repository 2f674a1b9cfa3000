/- Slices in memory: what a slice reads as, what the call itself owns, append. -/
import Derived.Test.YtjoplgdcpihmaaaBin
import Derived.Maps.AppendAt
import Derived.Deep.AppendLies
namespace Go.Proofs.Ytjoplgdcpihmaaa
open Go.RowKit

/-- An element's type: of slices t, its number e, its cells, its bytes. -/
structure El (α : Type) where
  t : TypeId
  e : TypeId
  size : Nat
  bytes : Nat
  z : Value
  enc : α → List Value
  len : ∀ x, (enc x).length = size
  one : ∀ x u, u ∈ enc x → u.oneCell' = true
  pos : 0 < size
  ht : Try.prog.underlying t = some (.slice e)
  hinfo : (Try.prog.info? e).map (fun i => (i.zero, i.size, i.bytes)) = some (some z, size, bytes)
  hz : z.cells.size = size

namespace El
variable {α : Type} (E : El α)
def cells (l : List α) : List Value := l.flatMap E.enc
theorem cells_nil : E.cells [] = [] := rfl
theorem cells_cons (x : α) (l : List α) : E.cells (x :: l) = E.enc x ++ E.cells l := by simp [cells]
theorem cells_append (l m : List α) : E.cells (l ++ m) = E.cells l ++ E.cells m := by simp [cells]
theorem cells_length (l : List α) : (E.cells l).length = l.length * E.size := by
  induction l with
  | nil => simp [cells]
  | cons x l ih => rw [cells_cons, List.length_append, ih, E.len, List.length_cons, Nat.add_mul, Nat.one_mul, Nat.add_comm]
theorem cells_get (l : List α) (i j : Nat) (x : α) (h : l[i]? = some x) (hj : j < E.size) : (E.cells l)[i * E.size + j]? = (E.enc x)[j]? := by
  induction l generalizing i with
  | nil => simp at h
  | cons y l ih =>
    rw [cells_cons]
    cases i with
    | zero =>
      simp only [List.getElem?_cons_zero, Option.some.injEq] at h; subst h
      rw [Nat.zero_mul, Nat.zero_add, List.getElem?_append_left (by rw [E.len]; exact hj)]
    | succ i =>
      simp only [List.getElem?_cons_succ] at h
      rw [List.getElem?_append_right (by rw [E.len, Nat.add_mul]; omega), E.len]
      rw [show (i + 1) * E.size + j - E.size = i * E.size + j by rw [Nat.add_mul]; omega]
      exact ih i h
theorem cells_one (l : List α) (u : Value) (h : u ∈ E.cells l) : u.oneCell' = true := by
  simp only [cells, List.mem_flatMap] at h
  obtain ⟨x, _, hx⟩ := h
  exact E.one x u hx

/-- The slice v reads as the list l. -/
def Reads (w : World) (v : Value) (l : List α) : Prop :=
  ∃ A c, v = .slice A l.length c ∧ l.length ≤ c ∧ (0 < l.length → ∃ b o, A = some ⟨b, o, none⟩ ∧ b < w.heap.size ∧ ∀ j u, (E.cells l)[j]? = some u → w.cell? ⟨b, o + j, none⟩ = some u)
/-- The slice v is the call's own, from block base on, and reads as l. -/
def Own (w : World) (base : Nat) (v : Value) (l : List α) : Prop := w.ownsRow base E.e E.size v l.length (E.cells l)
variable {E} {w w' : World} {v : Value} {l : List α} {base : Nat}
theorem Own.nil (w : World) (base : Nat) : E.Own w base (.slice none 0 0) [] := World.ownsRow_nil w base _ _
theorem Own.lt (h : E.Own w base v l) : ∀ k, v.ownBlock = some k → base ≤ k ∧ k < w.heap.size := World.ownsRow.lt h
theorem Own.kept {row : Option Nat} (h : E.Own w base v l) (hg : w.grownBy w' row) (hne : v.ownBlock = none ∨ v.ownBlock ≠ row) : E.Own w' base v l := World.ownsRow.kept h hg hne
theorem grown_of_below {w w1 : World} (h : Below w.heap.size w w1) (row : Option Nat) : w.grownBy w1 row := ⟨h.os, h.tape, h.output, h.size, fun i hi _ => h.block i hi⟩
theorem Own.below (h : E.Own w base v l) (hb : Below w.heap.size w w') : E.Own w' base v l := h.kept (grown_of_below hb none) (by cases v.ownBlock <;> simp)
theorem Own.alloc (h : E.Own w base v l) (o : Obj) : E.Own (w.alloc o) base v l := World.ownsRow.alloc h o
theorem Own.reads (h : E.Own w base v l) : E.Reads w v l := by
  rcases h.2 with ⟨rfl, h0⟩ | ⟨g, cap, cur, rfl, hb, hg, hc, _⟩
  · have : l = [] := List.eq_nil_of_length_eq_zero h0
    subst this
    exact ⟨none, 0, rfl, by simp, fun h => by simp at h⟩
  · refine ⟨_, cap, rfl, hc, fun _ => ⟨g, 0, rfl, (Array.getElem?_eq_some_iff.1 hg).1, fun j u hu => ?_⟩⟩
    have := World.ownsRow.cells h (g := g) rfl j u hu
    rwa [addr_add] at this
theorem Reads.below (h : E.Reads w v l) (hb : Below w.heap.size w w') : E.Reads w' v l := by
  obtain ⟨A, c, rfl, hc, h⟩ := h
  refine ⟨A, c, rfl, hc, fun h0 => ?_⟩
  obtain ⟨b, o, rfl, hlt, hcell⟩ := h h0
  exact ⟨b, o, rfl, Nat.lt_of_lt_of_le hlt hb.size, fun j u hu => by rw [hb.cell (p := ⟨b, o + j, none⟩) hlt]; exact hcell j u hu⟩
theorem Reads.nil (w : World) : E.Reads w (.slice none 0 0) [] := ⟨none, 0, rfl, by simp, fun h => by simp at h⟩
theorem Reads.kept {row : Option Nat} (h : E.Reads w v l) (hg : w.grownBy w' row) (hne : v.ownBlock = none ∨ v.ownBlock ≠ row) : E.Reads w' v l := by
  obtain ⟨A, c, rfl, hc, h⟩ := h
  refine ⟨A, c, rfl, hc, fun h0 => ?_⟩
  obtain ⟨b, o, rfl, hlt, hcell⟩ := h h0
  exact ⟨b, o, rfl, Nat.lt_of_lt_of_le hlt hg.size, fun j u hu => hg.cell (hcell j u hu) (by simpa [Value.ownBlock] using hne)⟩
/-- Element i of a slice that is read: its cells. -/
theorem Reads.at (h : E.Reads w v l) (i : Nat) (x : α) (hi : l[i]? = some x) : ∃ b o c, v = .slice (some ⟨b, o, none⟩) l.length c ∧ b < w.heap.size ∧ ∀ j u, (E.enc x)[j]? = some u → w.cell? ⟨b, o + (i * E.size + j), none⟩ = some u := by
  obtain ⟨A, c, rfl, hc, h⟩ := h
  have hlt := (List.getElem?_eq_some_iff.1 hi).1
  obtain ⟨b, o, rfl, hb, hcell⟩ := h (by omega)
  refine ⟨b, o, c, rfl, hb, fun j u hu => hcell _ _ ?_⟩
  have hj : j < E.size := by
    have := (List.getElem?_eq_some_iff.1 hu).1
    rwa [E.len] at this
  rw [E.cells_get l i j x hi hj]; exact hu

section
variable {ops : Array Oper} {rest : List Oper} {o : Oper} {a : Act} {Q : Exit → Act → World → Prop}
/-- append(v, y): behind 'at_builtin'; the goal's world holds the new element's own block. -/
theorem app (E : El α) {w0 W : World} (hgd : o.guard = none) (s x : Operand) (ho : o.op = .call { callee := .builtin .append, args := #[s, x], argTypes := #[E.t, E.t] })
    (base : Nat) (v : Value) (l : List α) (y : α) (hs : a.eval s = v) (hown : E.Own W base v l) (hx : a.eval x = .slice (some ⟨W.heap.size, 0, none⟩) 1 1)
    (cs : Array Value) (hcs : cs.toList = E.enc y) (hb : (l.length + 1) * E.bytes ≤ 140737488355328) (hm : l.length + 1 ≤ 9223372036854775807) (hbase : base ≤ W.heap.size) (hB : Below base w0 W)
    (h : ∀ v' w', E.Own w' base v' (l ++ [y]) → Below base w0 w' → W.grownBy w' v.ownBlock → (v'.ownBlock = v.ownBlock ∨ ∃ k, v'.ownBlock = some k ∧ W.heap.size ≤ k) → wpList Try.prog ops Q rest (a.put o.dst v') w') :
    wpList Try.prog ops Q (o :: rest) a (W.alloc (.cells cs E.e)) := by
  obtain ⟨i0, hi, hzz⟩ := Option.map_eq_some_iff.1 E.hinfo
  simp only [Prod.mk.injEq] at hzz
  obtain ⟨hz0, hz1, hz2⟩ := hzz
  refine wpList_append_own_at (W.alloc (.cells cs E.e)) hgd s x E.t ho base E.e i0 E.z E.size E.bytes E.ht hi hz0 hz1 hz2 E.hz E.pos v l.length (E.cells l) hs (World.ownsRow.alloc hown _) ⟨W.heap.size, 0, none⟩ 1 1 (E.enc y) hx
    (by rw [E.len, Nat.one_mul]) (fun j u hu => ?_) (fun u hu => E.one y u hu) (by simp only [maxLen]; omega) hb (by simp; omega) ?_
  · rw [addr_add, World.cell?_alloc_at (w := W) cs E.e W.heap.size (0 + j) rfl, Nat.zero_add, ← hu, ← hcs]; simp
  · intro v1 w1 hown1 hg _ hat
    have hg' := World.grownBy.trans (World.grownBy_alloc W (.cells cs E.e) v.ownBlock) hg
    refine h v1 w1 ?_ (hB.grown hg' hbase fun k hk => (Own.lt hown k hk).1) hg' ?_
    · show w1.ownsRow base E.e E.size v1 (l ++ [y]).length (E.cells (l ++ [y]))
      rw [E.cells_append, List.length_append, show E.cells [y] = E.enc y by simp [cells]]
      exact hown1
    · rcases hat with hat | hat
      · exact .inl hat
      · exact .inr ⟨_, hat, by simp⟩
/-- The same as a step of a region that draws its order: the new element's block is known whole. -/
theorem step (E : El α) {w0 W : World} {K : Act → World → Prop} {E' : Prop} (hgd : o.guard = none) (s x : Operand) (ho : o.op = .call { callee := .builtin .append, args := #[s, x], argTypes := #[E.t, E.t] })
    (base : Nat) (v : Value) (l : List α) (y : α) (b : Nat) (cs : Array Value) (hs : a.eval s = v) (hown : E.Own W base v l) (hx : a.eval x = .slice (some ⟨b, 0, none⟩) 1 1)
    (hnew : W.heap[b]? = some (.cells cs E.e (0, 0))) (hcs : cs.toList = E.enc y) (hb : (l.length + 1) * E.bytes ≤ 140737488355328) (hm : l.length + 1 ≤ 9223372036854775807) (hbase : base ≤ W.heap.size) (hB : Below base w0 W)
    (h : ∀ v' w', E.Own w' base v' (l ++ [y]) → Below base w0 w' → W.grownBy w' v.ownBlock → K (a.put o.dst v') w') :
    if Region.wanted o (yielded ops a.tmps) = true then Oper.wp Try.prog o a W K Q else E' := by
  obtain ⟨i0, hi, hzz⟩ := Option.map_eq_some_iff.1 E.hinfo
  simp only [Prod.mk.injEq] at hzz
  obtain ⟨hz0, hz1, hz2⟩ := hzz
  refine step_append_lies W hgd s x E.t ho base E.e i0 E.z E.size E.bytes E.ht hi hz0 hz1 hz2 E.hz E.pos v l.length (E.cells l) hs hown ⟨b, 0, none⟩ 1 1 (E.enc y) hx
    (by rw [E.len, Nat.one_mul]) (by rw [← hcs]; exact World.news_of_block hnew) (fun u hu => E.one y u hu) (by decide) (by simp only [maxLen]; omega) hb hbase W.heap.size rfl ?_
  intro g cap w1 hown1 hg _ _
  refine h _ w1 ?_ (hB.grown hg hbase fun k hk => (Own.lt hown k hk).1) hg
  show w1.ownsRow base E.e E.size _ (l ++ [y]).length (E.cells (l ++ [y]))
  rw [E.cells_append, List.length_append, show E.cells [y] = E.enc y by simp [cells]]
  exact hown1
end
theorem Own.ne (h : E.Own w base v l) (g : Nat) (hg : g < base) : v.ownBlock = none ∨ v.ownBlock ≠ some g := by
  cases hv : v.ownBlock with
  | none => exact .inl rfl
  | some k => exact .inr fun e => by injection e with e; have := (Own.lt h k hv).1; omega
theorem grown_of_drew {w w' : World} {r : Option Nat} (h : w.drew.grownBy w' r) : w.grownBy w' r := ⟨h.os, h.tape, h.output, h.size, h.block⟩
theorem Own.mono {b' : Nat} (h : E.Own w base v l) (hb : b' ≤ base) : E.Own w b' v l := by
  obtain ⟨h1, h2⟩ := h
  refine ⟨h1, ?_⟩
  rcases h2 with h2 | ⟨g, cap, cur, hv, hg, r⟩
  · exact .inl h2
  · exact .inr ⟨g, cap, cur, hv, by omega, r⟩
end El

/-- Bytes. -/
def EB : El UInt8 := { t := 38, e := 5, size := 1, bytes := 1, z := .int .u8 0, enc := fun c => [.int .u8 (vB c)], len := fun _ => rfl, one := fun x u hu => by simp at hu; subst hu; rfl, pos := by decide, ht := Try.underlying38, hinfo := info5, hz := rfl }
/-- A call of a function of the program, as a step of a region that draws its order. -/
theorem step_call {ops : Array Oper} {o : Oper} {a : Act} {Q : Exit → Act → World → Prop} {K : Act → World → Prop} {E' : Prop} {W : World}
    (f : FuncId) (hcf : ∀ (args : Array Value) (W : World), (callFunc f args).run Try.prog W = .ok (.enter f args) W)
    (xs : List Operand) (ts : Array TypeId) (ho : o.op = .call { callee := .value (.func f), args := xs.toArray, argTypes := ts }) (hw : Region.wanted o (yielded ops a.tmps) = true)
    (args : List Value) (hx : xs.map a.eval = args) (R : Ending → World → Prop) (hc : Calls Try.prog f args.toArray W R)
    (k : ∀ e w', R e w' → ∃ v, e = .returned v ∧ K (a.put o.dst v) w') :
    if Region.wanted o (yielded ops a.tmps) = true then Oper.wp Try.prog o a W K Q else E' := by
  rw [if_pos hw]
  unfold Oper.wp
  simp only [execOp, ho, resolve, List.map_toArray, hx]
  simp only [Deferred.ofValue, Act.eval, Sem.run_bind, Sem.run_pure, Result.andThen_ok, invoke, hcf, Array.append_empty, Array.empty_append, Oper.upon]
  refine hc.mono ?_
  intro e w' h
  obtain ⟨v, rfl, hk⟩ := k e w' h
  exact hk

end Go.Proofs.Ytjoplgdcpihmaaa
