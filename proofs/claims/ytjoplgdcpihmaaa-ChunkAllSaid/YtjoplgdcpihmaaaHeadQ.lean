/- The reference's Get: the state of its loop, and the plain law that it answers as getHead. -/
import Derived.Test.YtjoplgdcpihmaaaHeadL
import Derived.Test.YtjoplgdcpihmaaaHeadO
namespace Go.Proofs.Ytjoplgdcpihmaaa
open Go.RowKit

theorem num_take (s : List UInt8) (i n : Int) (h0 : 0 ≤ i) (hn : 0 ≤ n) (h : i + n ≤ 256) (hs : 256 ≤ s.length) : num (s.take 256) i n = num s i n := by
  unfold num getB
  by_cases hc : n ≤ 7
  · rw [if_pos ⟨hn, hc, h0, by rw [List.length_take]; omega⟩, if_pos ⟨hn, hc, h0, by omega⟩]
    rw [List.drop_take, List.take_take, Nat.min_eq_left (by omega)]
  · rw [if_neg (fun h => hc h.2.1), if_neg (fun h => hc h.2.1)]
theorem numsOf_take (s : List UInt8) (hs : 256 ≤ s.length) : numsOf (s.take 256) = numsOf s := by
  unfold numsOf
  rw [num_take s 4 1 (by omega) (by omega) (by omega) hs, num_take s 5 2 (by omega) (by omega) (by omega) hs, num_take s 7 3 (by omega) (by omega) (by omega) hs, num_take s 10 6 (by omega) (by omega) (by omega) hs,
    num_take s 16 2 (by omega) (by omega) (by omega) hs, num_take s 18 6 (by omega) (by omega) (by omega) hs, num_take s 24 6 (by omega) (by omega) (by omega) hs, num_take s 30 6 (by omega) (by omega) (by omega) hs]
theorem entsAt_take (s : List UInt8) (k : Nat) (hk : k ≤ 54) (hs : 256 ≤ s.length) : entsAt (s.take 256) k = entsAt s k := by
  unfold entsAt
  refine List.map_congr_left fun i hi => ?_
  have hi' := List.mem_range.1 hi
  unfold entAt
  rw [num_take s _ 1 (by omega) (by omega) (by omega) hs, num_take s _ 1 (by omega) (by omega) (by omega) hs, num_take s _ 2 (by omega) (by omega) (by omega) hs]
/-- How many entries the reference reads. -/
def refCnt (s : List UInt8) : Nat := (min (num s 36 1) 24).toNat
def refGet (s : List UInt8) : Option (Hd × List Ent × Int) :=
  if s.length < 256 then none
  else if checkB (numsOf s) (entsAt s (refCnt s)) = true ∧ headBytes (numsOf s) (entsAt s (refCnt s)) = s.take 252 then
    some (numsOf s, entsAt s (refCnt s), num s 252 4)
  else none
theorem num_headBytes {h : Hd} {l : List Ent} (hc : checkB h l = true) : num (headBytes h l) 36 1 = l.length := by
  have e : headBytes h l = numBytes h l.length ++ (entsBytes l ++ List.replicate (252 - (numBytes h l.length ++ entsBytes l).length) 0) := by
    unfold headBytes padTo; rw [List.append_assoc]
  rw [e]; exact (numsOf_bytes hc _).2
theorem refGet_eq (s : List UInt8) : refGet s = getHead s := by
  unfold refGet getHead
  by_cases hs : s.length < 256
  · rw [if_pos hs, if_pos hs]
  · have hs' : 256 ≤ s.length := by omega
    have hb := num_bd s 36 1 (by decide)
    rw [if_neg hs, if_neg hs, numsOf_take s hs', num_take s 252 4 (by omega) (by omega) (by omega) hs']
    have hcn : cntOf (s.take 256) = (min (num s 36 1) 25).toNat := by unfold cntOf; rw [num_take s 36 1 (by omega) (by omega) (by omega) hs']
    rw [hcn, entsAt_take s _ (by omega) hs']
    by_cases h24 : num s 36 1 ≤ 24
    · have e : refCnt s = (min (num s 36 1) 25).toNat := by unfold refCnt; omega
      rw [e]
    · have e : refCnt s = 24 := by unfold refCnt; omega
      have e2 : (min (num s 36 1) 25).toNat = 25 := by omega
      rw [e, e2, if_neg, if_neg]
      · rintro ⟨h1, -⟩
        have := checkB_len h1
        rw [entsAt_length] at this; omega
      · rintro ⟨h1, h2⟩
        have h3 := num_headBytes h1
        rw [h2, entsAt_length] at h3
        have h4 : num (s.take 252) 36 1 = num s 36 1 := by
          unfold num getB
          rw [if_pos ⟨by omega, by omega, by omega, by rw [List.length_take]; omega⟩, if_pos ⟨by omega, by omega, by omega, by omega⟩]
          rw [List.drop_take, List.take_take]; rfl
        omega
theorem cf92 (args : Array Value) (W : World) : (callFunc 92 args).run Try.prog W = .ok (.enter 92 args) W := by simp [go_sem]
theorem cf33 (args : Array Value) (W : World) : (callFunc 33 args).run Try.prog W = .ok (.enter 33 args) W := by simp [go_sem]
theorem cf89 (args : Array Value) (W : World) : (callFunc 89 args).run Try.prog W = .ok (.enter 89 args) W := by simp [go_sem]
theorem refnum_val (s : List UInt8) (i n x : Int) (w : World) (hs : s.length ≤ 140737488351232) (hx : num s i n = x) :
    Calls Try.prog 92 #[.string (bs s), .int .i64 i, .int .i64 n] w fun e w' => e = .returned (.int .i64 x) ∧ w = w' := by
  subst hx; exact refnum_any s i n w hs

/-- The result (block 0 of the call's own), the head under way (block 1), the list. -/
def RefSt (w W : World) (D C : Array Value) (v : Value) (l : List Ent) : Prop :=
  Below w.heap.size w W ∧ w.heap.size + 2 ≤ W.heap.size ∧ EE.Own W (w.heap.size + 2) v l ∧ W.heap[w.heap.size]? = some (.cells D 24 (0, 0)) ∧ W.heap[w.heap.size + 1]? = some (.cells C 24 (0, 0))
theorem RefSt.drew {w W : World} {D C : Array Value} {v : Value} {l : List Ent} (h : RefSt w W D C v l) : RefSt w W.drew D C v l := ⟨h.1.drew, h.2.1, h.2.2.1, h.2.2.2.1, h.2.2.2.2⟩
theorem RefSt.cell {w W : World} {D C : Array Value} {v : Value} {l : List Ent} (h : RefSt w W D C v l) (j : Nat) : W.cell? ⟨w.heap.size + 1, j, none⟩ = C[j]? := cell_of_row _ _ j _ _ _ h.2.2.2.2
theorem RefSt.free {w W : World} {D C : Array Value} {v : Value} {l : List Ent} (h : RefSt w W D C v l) (j : Nat) : W.frozen? ⟨w.heap.size + 1, j, none⟩ = false := free_of_row h.2.2.2.2 j
theorem RefSt.cell0 {w W : World} {D C : Array Value} {v : Value} {l : List Ent} (h : RefSt w W D C v l) (j : Nat) : W.cell? ⟨w.heap.size, j, none⟩ = D[j]? := cell_of_row _ _ j _ _ _ h.2.2.2.1
theorem RefSt.free0 {w W : World} {D C : Array Value} {v : Value} {l : List Ent} (h : RefSt w W D C v l) (j : Nat) : W.frozen? ⟨w.heap.size, j, none⟩ = false := free_of_row h.2.2.2.1 j
theorem RefSt.set {w W : World} {D C : Array Value} {v : Value} {l : List Ent} (h : RefSt w W D C v l) (j : Nat) (u : Value) : RefSt w (W.setCell ⟨w.heap.size + 1, j, none⟩ u) D (C.setIfInBounds j u) v l := by
  obtain ⟨hB, hz, hO, hX, hG⟩ := h
  refine ⟨hB.setCell (by simp) u, by simpa [World.setCell] using hz, ?_, (Below.heap_setCell _ _ _ _ (by simp)).trans hX, heap_set hG j u⟩
  exact hO.kept (row := some (w.heap.size + 1)) ⟨rfl, rfl, rfl, by simp [World.setCell], fun k hk hne => Below.heap_setCell _ _ _ _ (fun e => hne (by rw [e]))⟩ (hO.ne _ (by omega))
theorem RefSt.set0 {w W : World} {D C : Array Value} {v : Value} {l : List Ent} (h : RefSt w W D C v l) (j : Nat) (u : Value) : RefSt w (W.setCell ⟨w.heap.size, j, none⟩ u) (D.setIfInBounds j u) C v l := by
  obtain ⟨hB, hz, hO, hX, hG⟩ := h
  refine ⟨hB.setCell (Nat.le_refl _) u, by simpa [World.setCell] using hz, ?_, heap_set hX j u, (Below.heap_setCell _ _ _ _ (by simp)).trans hG⟩
  exact hO.kept (row := some w.heap.size) ⟨rfl, rfl, rfl, by simp [World.setCell], fun k hk hne => Below.heap_setCell _ _ _ _ (fun e => hne (by rw [e]))⟩ (hO.ne _ (by omega))
theorem RefSt.at' {w W : World} {D C D' C' : Array Value} {v : Value} {l l' : List Ent} (h : RefSt w W D C v l) (hD : D = D') (hC : C = C') (hl : l = l') : RefSt w W D' C' v l' := by subst hD hC hl; exact h
theorem RefSt.below {w W W' : World} {D C : Array Value} {v : Value} {l : List Ent} (h : RefSt w W D C v l) (hb : Below W.heap.size W W') : RefSt w W' D C v l := by
  obtain ⟨hB, hz, hO, hX, hG⟩ := h
  exact ⟨hB.trans (hb.mono (by omega)), Nat.le_trans hz hb.size, hO.below hb, (hb.block _ (by omega)).trans hX, (hb.block _ (by omega)).trans hG⟩
theorem ref_app {ops : Array Oper} {o : Oper} {a : Act} {Q : Exit → Act → World → Prop} {K : Act → World → Prop} {E' : Prop}
    {w W : World} {D C : Array Value} {v : Value} {l : List Ent} (h : RefSt w W D C v l) (hl : l.length ≤ 1000) (y : Ent)
    (hgd : o.guard = none) (s x : Operand) (ho : o.op = .call { callee := .builtin .append, args := #[s, x], argTypes := #[22, 22] }) (hs : a.eval s = v) (hx : a.eval x = .slice (some ⟨W.heap.size, 0, none⟩) 1 1)
    (k : ∀ A n c w', RefSt w w' D C (.slice A n c) (l ++ [y]) → K (a.put o.dst (.slice A n c)) w') :
    if Region.wanted o (yielded ops a.tmps) = true then Oper.wp Try.prog o a (W.alloc (.cells #[.int .i64 y.k, .int .i64 y.n, .int .i64 y.p] 42)) K Q else E' := by
  obtain ⟨hB, hz, hO, hX, hG⟩ := h
  refine El.step EE (w0 := W.alloc (.cells #[.int .i64 y.k, .int .i64 y.n, .int .i64 y.p] 42)) hgd s x ho (w.heap.size + 2) v l y W.heap.size #[.int .i64 y.k, .int .i64 y.n, .int .i64 y.p] hs (hO.alloc _) hx (heap_alloc_new W _) rfl (by simp only [EE]; omega) (by omega) (by simp; omega) (Below.refl _ _) ?_
  intro v' w1 ho hb hg
  have hB1 := hB.alloc (by omega) (.cells #[.int .i64 y.k, .int .i64 y.n, .int .i64 y.p] 42)
  obtain ⟨A, c, rfl, _⟩ := ho.reads
  refine k _ _ _ w1 ⟨hB1.grown hg (by simp; omega) (fun k e => by have := (hO.lt k e).1; omega), Nat.le_trans (by simp; omega) hg.size, ho, ?_, ?_⟩
  · rw [hg.block _ (by simp; omega) (fun e => by have := (hO.lt _ e.symm).1; omega), Below.heap_alloc _ _ _ (by omega)]; exact hX
  · rw [hg.block _ (by simp; omega) (fun e => by have := (hO.lt _ e.symm).1; omega), Below.heap_alloc _ _ _ (by omega)]; exact hG
end Go.Proofs.Ytjoplgdcpihmaaa
