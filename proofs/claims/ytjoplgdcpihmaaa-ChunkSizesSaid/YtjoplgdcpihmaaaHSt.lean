/- A row of houses that the call itself has made, each with segments of its own: one predicate with its rules. -/
import Derived.Test.YtjoplgdcpihmaaaTabN
import Derived.Test.YtjoplgdcpihmaaaHeadL
namespace Go.Proofs.Ytjoplgdcpihmaaa
open Go.RowKit
/-- Houses whose row and whose segments the call has made, in blocks of their own. -/
structure HSt (W : World) (base : Nat) (v : Value) (l : List HM) : Prop where
  own : EH.Own W base v l
  segs : ∀ x ∈ l, EI.Own W base (.slice x.A x.d.segs.length x.c) x.d.segs
  off : ∀ x ∈ l, ∀ a, x.A = some a → some a.block ≠ v.ownBlock
  apart : ∀ (i j : Nat) (x y : HM) (a b : Addr), i < j → l[i]? = some x → l[j]? = some y → x.A = some a → y.A = some b → a.block ≠ b.block
theorem own_block_of (A : Option Addr) (n c : Nat) : (Value.slice A n c).ownBlock = A.map (·.block) := by
  cases A <;> rfl
namespace HSt
variable {W W' : World} {base : Nat} {v : Value} {l : List HM}
theorem reads (h : HSt W base v l) : HReads W v l := ⟨h.own.reads, fun x hx => (h.segs x hx).reads⟩
theorem below (h : HSt W base v l) (hb : Below W.heap.size W W') : HSt W' base v l :=
  ⟨h.own.below hb, fun x hx => (h.segs x hx).below hb, h.off, h.apart⟩
theorem alloc (h : HSt W base v l) (o : Obj) : HSt (W.alloc o) base v l := h.below ((Below.refl _ _).alloc (Nat.le_refl _) _)
theorem drew (h : HSt W base v l) : HSt W.drew base v l := ⟨h.own, h.segs, h.off, h.apart⟩
theorem of_zeros {n : Nat} (h : EH.Own W base v (List.replicate n ⟨hd0, none, 0⟩)) : HSt W base v (List.replicate n ⟨hd0, none, 0⟩) := by
  refine ⟨h, fun x hx => ?_, fun x hx a e => ?_, fun i j x y a b _ hx _ e => ?_⟩
  · obtain ⟨-, rfl⟩ := List.mem_replicate.1 hx
    exact El.Own.nil _ _
  · obtain ⟨-, rfl⟩ := List.mem_replicate.1 hx
    cases e
  · obtain ⟨-, rfl⟩ := List.mem_replicate.1 (List.mem_of_getElem? hx)
    cases e
/-- A change of one row that is none of these. -/
theorem grown (h : HSt W base v l) {row : Option Nat} (hg : W.grownBy W' row) (hv : v.ownBlock = none ∨ v.ownBlock ≠ row) (hs : ∀ x ∈ l, ∀ a, x.A = some a → some a.block ≠ row) : HSt W' base v l := by
  refine ⟨h.own.kept hg hv, fun x hx => (h.segs x hx).kept hg ?_, h.off, h.apart⟩
  rw [own_block_of]
  cases hA : x.A with
  | none => exact .inl rfl
  | some a => exact .inr (hs x hx a hA)
theorem set_apart (h : ∀ (i j : Nat) (x y : HM) (a b : Addr), i < j → l[i]? = some x → l[j]? = some y → x.A = some a → y.A = some b → a.block ≠ b.block) (i : Nat) (x' : HM) (hx : ∀ (j : Nat) (y : HM) (a b : Addr), j ≠ i → l[j]? = some y → y.A = some b → x'.A = some a → a.block ≠ b.block) :
    ∀ (i' j : Nat) (x y : HM) (a b : Addr), i' < j → (l.set i x')[i']? = some x → (l.set i x')[j]? = some y → x.A = some a → y.A = some b → a.block ≠ b.block := by
  intro i' j x y a b hij h1 h2 ha hb
  rw [List.getElem?_set] at h1 h2
  by_cases e1 : i = i'
  · rw [if_neg (by omega)] at h2
    rw [if_pos e1] at h1
    split at h1
    · injection h1 with h1; subst h1
      exact hx j y a b (by omega) h2 hb ha
    · cases h1
  · rw [if_neg e1] at h1
    by_cases e2 : i = j
    · rw [if_pos e2] at h2
      split at h2
      · injection h2 with h2; subst h2
        exact fun e => hx i' x b a (by omega) h1 ha hb e.symm
      · cases h2
    · rw [if_neg e2] at h2
      exact h i' j x y a b hij h1 h2 ha hb
/-- A number of a house is stored. -/
theorem field {lb c : Nat} (h : HSt W base (.slice (some ⟨lb, 0, none⟩) l.length c) l) (i : Nat) (x : HM) (hi : l[i]? = some x) (k : Nat) (hk : k < 9) (u : Int) :
    HSt (W.setCell ⟨lb, i * 10 + k, none⟩ (.int .i64 u)) base (.slice (some ⟨lb, 0, none⟩) l.length c) (l.set i ⟨setF x.d k u, x.A, x.c⟩) := by
  have h2 := h.own.store i k x ⟨setF x.d k u, x.A, x.c⟩ (.int .i64 u) hi (show k < 10 by omega) (setF_enc x k u hk)
  rw [List.length_set] at h2
  have hm := List.mem_of_getElem? hi
  have key : ∀ y ∈ l, EI.Own (W.setCell ⟨lb, i * 10 + k, none⟩ (.int .i64 u)) base (.slice y.A y.d.segs.length y.c) y.d.segs := fun y hy => (h.segs y hy).kept (grown_cell W ⟨lb, i * 10 + k, none⟩ (.int .i64 u)) (by
    rw [own_block_of]
    cases hA : y.A with
    | none => exact .inl rfl
    | some a => exact .inr (h.off y hy a hA))
  refine ⟨h2, fun y hy => ?_, fun y hy a e => ?_, set_apart h.apart i _ fun j y a b hj hy hb ha => ?_⟩
  · rcases List.mem_or_eq_of_mem_set hy with hy | rfl
    · exact key y hy
    · simp only [setF_segs _ _ _ hk]; exact key x hm
  · rcases List.mem_or_eq_of_mem_set hy with hy | rfl
    · exact h.off y hy a e
    · exact h.off x hm a e
  · rcases Nat.lt_or_ge i j with h3 | h3
    · exact h.apart i j x y a b h3 hi hy ha hb
    · exact fun e => h.apart j i y x b a (by omega) hy hi hb ha e.symm
/-- Other segments of a house are stored, which the call has made. -/
theorem segset {lb c : Nat} (h : HSt W base (.slice (some ⟨lb, 0, none⟩) l.length c) l) (i : Nat) (x : HM) (hi : l[i]? = some x) {row : Option Nat} (hg : W.grownBy W' row) (hrow : row = (Value.slice x.A x.d.segs.length x.c).ownBlock)
    (A' : Option Addr) (c' : Nat) (S : List Int) (ho : EI.Own W' base (.slice A' S.length c') S) (hat : (Value.slice A' S.length c').ownBlock = (Value.slice x.A x.d.segs.length x.c).ownBlock ∨ ∃ k, (Value.slice A' S.length c').ownBlock = some k ∧ W.heap.size ≤ k) :
    HSt (W'.setCell ⟨lb, i * 10 + 9, none⟩ (.slice A' S.length c')) base (.slice (some ⟨lb, 0, none⟩) l.length c) (l.set i ⟨⟨x.d.st, x.d.gn, x.d.x, S⟩, A', c'⟩) := by
  have hm := List.mem_of_getElem? hi
  have hlb := h.own.lt lb rfl
  have hoff : ∀ y ∈ l, ∀ a, y.A = some a → a.block ≠ lb := fun y hy a e hh => h.off y hy a e (by rw [hh]; rfl)
  have hA' : ∀ a, A' = some a → a.block ≠ lb ∧ ∀ j y b, j ≠ i → l[j]? = some y → y.A = some b → a.block ≠ b.block := by
    intro a ha
    rw [own_block_of, own_block_of, ha] at hat
    rcases hat with hat | ⟨k, hk, hk2⟩
    · obtain ⟨a0, ha0, e0⟩ := Option.map_eq_some_iff.1 hat.symm
      refine ⟨fun e => hoff x hm a0 ha0 (e0.trans e), fun j y b hj hy hb e => ?_⟩
      rcases Nat.lt_or_ge i j with h3 | h3
      · exact h.apart i j x y a0 b h3 hi hy ha0 hb (e0.trans e)
      · exact h.apart j i y x b a0 (by omega) hy hi hb ha0 (e0.trans e).symm
    · simp only [Option.map_some, Option.some.injEq] at hk
      refine ⟨by omega, fun j y b hj hy hb e => ?_⟩
      have := (h.segs y (List.mem_of_getElem? hy)).lt b.block (by rw [own_block_of, hb]; rfl)
      omega
  have hO : EH.Own W' base (.slice (some ⟨lb, 0, none⟩) l.length c) l := h.own.kept hg (by
    rw [hrow]
    refine .inr fun e => ?_
    rw [own_block_of, own_block_of] at e
    obtain ⟨a, ha, e2⟩ := Option.map_eq_some_iff.1 e.symm
    exact hoff x hm a ha e2)
  have h2 := hO.store i 9 x ⟨⟨x.d.st, x.d.gn, x.d.x, S⟩, A', c'⟩ (.slice A' S.length c') hi (by decide) rfl
  rw [List.length_set] at h2
  have gc := grown_cell W' ⟨lb, i * 10 + 9, none⟩ (.slice A' S.length c')
  refine ⟨h2, fun y hy => ?_, fun y hy a e => ?_, set_apart h.apart i _ fun j y a b hj hy hb ha => (hA' a ha).2 j y b hj hy hb⟩
  · obtain ⟨j, hj⟩ := List.getElem?_of_mem hy
    rw [List.getElem?_set] at hj
    split at hj
    · split at hj
      · injection hj with hj; subst hj
        refine ho.kept gc ?_
        rw [own_block_of]
        cases hA : A' with
        | none => exact .inl rfl
        | some a => exact .inr (fun e => by simp only [Option.map_some, Option.some.injEq] at e; exact (hA' a hA).1 e)
      · cases hj
    · rename_i hne
      have hyl := List.mem_of_getElem? hj
      refine ((h.segs y hyl).kept hg ?_).kept gc ?_
      · rw [hrow, own_block_of, own_block_of]
        cases hA : y.A with
        | none => exact .inl rfl
        | some a =>
          refine .inr fun e => ?_
          obtain ⟨a0, ha0, e0⟩ := Option.map_eq_some_iff.1 e.symm
          rcases Nat.lt_or_ge i j with h3 | h3
          · exact h.apart i j x y a0 a h3 hi hj ha0 hA e0
          · exact h.apart j i y x a a0 (by omega) hj hi hA ha0 e0.symm
      · rw [own_block_of]
        cases hA : y.A with
        | none => exact .inl rfl
        | some a => exact .inr (fun e => by simp only [Option.map_some, Option.some.injEq] at e; exact hoff y hyl a hA e)
  · simp only [Value.ownBlock]
    rcases List.mem_or_eq_of_mem_set hy with hy | rfl
    · exact fun e2 => hoff y hy a e (by simpa using e2)
    · exact fun e2 => (hA' a e).1 (by simpa using e2)
theorem _root_.Go.Proofs.Ytjoplgdcpihmaaa.El.cells_same {α : Type} (E : El α) (l : List α) (i : Nat) (x x' : α) (hi : l[i]? = some x) (he : E.enc x' = E.enc x) : E.cells (l.set i x') = E.cells l := by
  induction l generalizing i with
  | nil => rfl
  | cons y l ih =>
    cases i with
    | zero =>
      simp only [List.getElem?_cons_zero, Option.some.injEq] at hi
      subst hi
      rw [List.set_cons_zero, E.cells_cons, E.cells_cons, he]
    | succ i =>
      simp only [List.getElem?_cons_succ] at hi
      rw [List.set_cons_succ, E.cells_cons, E.cells_cons, ih i hi]
/-- A segment's number is stored. -/
theorem segstore {lb c : Nat} (h : HSt W base (.slice (some ⟨lb, 0, none⟩) l.length c) l) (i : Nat) (x : HM) (hi : l[i]? = some x) (g : Nat) (hA : x.A = some ⟨g, 0, none⟩) (j : Nat) (hj : j < x.d.segs.length) (u : Int) :
    HSt (W.setCell ⟨g, j, none⟩ (.int .i64 u)) base (.slice (some ⟨lb, 0, none⟩) l.length c) (l.set i ⟨⟨x.d.st, x.d.gn, x.d.x, x.d.segs.set j u⟩, x.A, x.c⟩) := by
  have hm := List.mem_of_getElem? hi
  have gc := grown_cell W ⟨g, j, none⟩ (.int .i64 u)
  have hs := h.segs x hm
  rw [hA] at hs
  have h1 := El.Own.store hs j 0 (x.d.segs[j]) u (.int .i64 u) (List.getElem?_eq_getElem hj) (by decide) rfl
  simp only [EI, Nat.mul_one, Nat.add_zero] at h1
  have hoff : g ≠ lb := fun e => h.off x hm _ hA (by rw [e]; rfl)
  have hO : EH.Own (W.setCell ⟨g, j, none⟩ (.int .i64 u)) base (.slice (some ⟨lb, 0, none⟩) l.length c) l := h.own.kept gc (.inr fun e => by simp only [Value.ownBlock, Option.some.injEq] at e; exact hoff e.symm)
  have hlen : (x.d.segs.set j u).length = x.d.segs.length := List.length_set
  have hcells : EH.cells (l.set i ⟨⟨x.d.st, x.d.gn, x.d.x, x.d.segs.set j u⟩, x.A, x.c⟩) = EH.cells l := El.cells_same EH l i x _ hi (by show encH _ = encH _; simp only [encH, hlen])
  refine ⟨?_, fun y hy => ?_, fun y hy a e => ?_, set_apart h.apart i _ fun k y a b hk hy hb ha => ?_⟩
  · show World.ownsRow _ _ _ _ _ _ _
    rw [hcells, List.length_set]; exact hO
  · obtain ⟨k, hk⟩ := List.getElem?_of_mem hy
    rw [List.getElem?_set] at hk
    split at hk
    · split at hk
      · injection hk with hk; subst hk
        simp only [hA, hlen]
        rw [hlen] at h1
        exact h1
      · cases hk
    · rename_i hne
      have hyl := List.mem_of_getElem? hk
      refine (h.segs y hyl).kept gc ?_
      rw [own_block_of]
      cases hB : y.A with
      | none => exact .inl rfl
      | some a =>
        refine .inr fun e => ?_
        simp only [Option.map_some, Option.some.injEq] at e
        rcases Nat.lt_or_ge i k with h3 | h3
        · exact h.apart i k x y _ a h3 hi hk hA hB e.symm
        · exact h.apart k i y x a _ (by omega) hk hi hB hA e
  · rcases List.mem_or_eq_of_mem_set hy with hy | rfl
    · exact h.off y hy a e
    · exact h.off x hm a e
  · rcases Nat.lt_or_ge i k with h3 | h3
    · exact h.apart i k x y a b h3 hi hy ha hb
    · exact fun e => h.apart k i y x b a (by omega) hy hi hb ha e.symm
end HSt
end Go.Proofs.Ytjoplgdcpihmaaa
