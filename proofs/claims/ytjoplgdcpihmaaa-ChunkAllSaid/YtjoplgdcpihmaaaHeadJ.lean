/- head.Get: the head of a block. -/
import Derived.Test.YtjoplgdcpihmaaaHeadI
import Derived.Test.YtjoplgdcpihmaaaHeadF
namespace Go.Proofs.Ytjoplgdcpihmaaa
open Go.RowKit
attribute [local go_sem ↓] Go.wp_at_zero Go.wp_at_succ

/-- A number of bytes; 0 where there is none. -/
def num (b : List UInt8) (i n : Int) : Int := (getB b i n).getD 0
def numsOf (b : List UInt8) : Hd := ⟨num b 4 1, num b 5 2, num b 7 3, num b 10 6, num b 16 2, num b 18 6, num b 24 6, num b 30 6⟩
def entAt (b : List UInt8) (k : Nat) : Ent := ⟨num b (37 + 4 * (k : Int)) 1, num b (37 + 4 * (k : Int) + 1) 1, num b (37 + 4 * (k : Int) + 1 + 1) 2⟩
def entsAt (b : List UInt8) (k : Nat) : List Ent := (List.range k).map (entAt b)
theorem entsAt_succ (b : List UInt8) (k : Nat) : entsAt b (k + 1) = entsAt b k ++ [entAt b k] := by simp [entsAt, List.range_succ]
theorem entsAt_length (b : List UInt8) (k : Nat) : (entsAt b k).length = k := by simp [entsAt]
/-- How many entries a block tells of, at most one too many. -/
def cntOf (b : List UInt8) : Nat := (min (num b 36 1) 25).toNat
def getHead (s : List UInt8) : Option (Hd × List Ent × Int) :=
  if s.length < 256 then none
  else if checkB (numsOf (s.take 256)) (entsAt (s.take 256) (cntOf (s.take 256))) = true ∧ headBytes (numsOf (s.take 256)) (entsAt (s.take 256) (cntOf (s.take 256))) = s.take 252 then
    some (numsOf (s.take 256), entsAt (s.take 256) (cntOf (s.take 256)), num (s.take 256) 252 4)
  else none
theorem num_bd (b : List UInt8) (i n : Int) (hn : n ≤ 6) : 0 ≤ num b i n ∧ num b i n ≤ 281474976710655 := by
  unfold num getB
  split
  · rename_i h
    have := leN_lt ((b.drop i.toNat).take n.toNat) 6 (by rw [List.length_take]; omega)
    have h6 : (256 : Int) ^ 6 = 281474976710656 := by decide
    simp only [Option.getD_some]; omega
  · simp

/-- The state of head.Get's loop: the head under way (block 0 of the call's own), the reader (block 1), the list. -/
def GetSt (w W : World) (b : List UInt8) (C : Array Value) (i : Int) (v : Value) (l : List Ent) : Prop :=
  Below w.heap.size w W ∧ w.heap.size + 2 ≤ W.heap.size ∧ EE.Own W (w.heap.size + 2) v l ∧ W.heap[w.heap.size]? = some (.cells C 24 (0, 0)) ∧ W.heap[w.heap.size + 1]? = some (.cells #[.string (bs b), .int .i64 i] 124 (0, 0))
theorem GetSt.drew {w W : World} {b : List UInt8} {C : Array Value} {i : Int} {v : Value} {l : List Ent} (h : GetSt w W b C i v l) : GetSt w W.drew b C i v l := ⟨h.1.drew, h.2.1, h.2.2.1, h.2.2.2.1, h.2.2.2.2⟩
theorem GetSt.cell {w W : World} {b : List UInt8} {C : Array Value} {i : Int} {v : Value} {l : List Ent} (h : GetSt w W b C i v l) (j : Nat) : W.cell? ⟨w.heap.size, j, none⟩ = C[j]? := cell_of_row _ _ j _ _ _ h.2.2.2.1
theorem GetSt.free {w W : World} {b : List UInt8} {C : Array Value} {i : Int} {v : Value} {l : List Ent} (h : GetSt w W b C i v l) (j : Nat) : W.frozen? ⟨w.heap.size, j, none⟩ = false := free_of_row h.2.2.2.1 j
theorem GetSt.set {w W : World} {b : List UInt8} {C : Array Value} {i : Int} {v : Value} {l : List Ent} (h : GetSt w W b C i v l) (j : Nat) (u : Value) : GetSt w (W.setCell ⟨w.heap.size, j, none⟩ u) b (C.setIfInBounds j u) i v l := by
  obtain ⟨hB, hz, hO, hX, hG⟩ := h
  refine ⟨hB.setCell (Nat.le_refl _) u, by simpa [World.setCell] using hz, ?_, heap_set hX j u, (Below.heap_setCell _ _ _ _ (by simp)).trans hG⟩
  refine hO.kept (row := some w.heap.size) ⟨rfl, rfl, rfl, by simp [World.setCell], fun k hk hne => Below.heap_setCell _ _ _ _ (fun e => hne (by rw [e]))⟩ (hO.ne _ (by omega))
theorem GetSt.setR {w W : World} {b : List UInt8} {C : Array Value} {i : Int} {v : Value} {l : List Ent} (h : GetSt w W b C i v l) (j : Int) : GetSt w (W.setCell ⟨w.heap.size + 1, 1, none⟩ (.int .i64 j)) b C j v l := by
  obtain ⟨hB, hz, hO, hX, hG⟩ := h
  refine ⟨hB.setCell (by simp) _, by simpa [World.setCell] using hz, ?_, (Below.heap_setCell _ _ _ _ (by simp)).trans hX, heap_set hG 1 _⟩
  refine hO.kept (row := some (w.heap.size + 1)) ⟨rfl, rfl, rfl, by simp [World.setCell], fun k hk hne => Below.heap_setCell _ _ _ _ (fun e => hne (by rw [e]))⟩ (hO.ne _ (by omega))
theorem bs_toList (l : List UInt8) : (bs l).toList = l := by rw [ByteArray.toList_eq]; rfl
theorem GetSt.at' {w W : World} {b : List UInt8} {C C' : Array Value} {i i' : Int} {v : Value} {l l' : List Ent} (h : GetSt w W b C i v l) (hC : C = C') (hi : i = i') (hl : l = l') : GetSt w W b C' i' v l' := by subst hC hi hl; exact h
theorem GetSt.below {w W W' : World} {b : List UInt8} {C : Array Value} {i : Int} {v : Value} {l : List Ent} (h : GetSt w W b C i v l) (hb : Below W.heap.size W W') : GetSt w W' b C i v l := by
  obtain ⟨hB, hz, hO, hX, hG⟩ := h
  exact ⟨hB.trans (hb.mono (by omega)), Nat.le_trans hz hb.size, hO.below hb, (hb.block _ (by omega)).trans hX, (hb.block _ (by omega)).trans hG⟩
theorem cf32 (args : Array Value) (W : World) : (callFunc 32 args).run Try.prog W = .ok (.enter 32 args) W := by simp [go_sem]
theorem cf87 (args : Array Value) (W : World) : (callFunc 87 args).run Try.prog W = .ok (.enter 87 args) W := by simp [go_sem]
theorem rget_st {w W : World} {b : List UInt8} {C : Array Value} {i : Int} {v : Value} {l : List Ent} (h : GetSt w W b C i v l) (hL : b.length ≤ 140737488351232) (n : Int) (hi : 0 ≤ i) (hi1 : i ≤ 100000) (hn : 0 ≤ n) (hn1 : n ≤ 100000) :
    Calls Try.prog 91 #[.pointer (some ⟨w.heap.size + 1, 0, none⟩), .int .i64 n] W fun e w' => e = .returned (.int .i64 (num b i n)) ∧ GetSt w w' b C (i + n) v l := by
  obtain ⟨hB, hz, hO, hX, hG⟩ := h
  refine (rget_any _ b i n W hG hL hi hi1 hn hn1).mono ?_
  rintro e w' ⟨rfl, hgr, hg1⟩
  exact ⟨rfl, hB.grown hgr (by omega) (fun k e => by injection e; omega), Nat.le_trans hz hgr.size, hO.kept hgr (hO.ne _ (by omega)), (hgr.block _ (by omega) (by simp)).trans hX, hg1⟩
theorem get_app {ops : Array Oper} {o : Oper} {a : Act} {Q : Exit → Act → World → Prop} {K : Act → World → Prop} {E' : Prop}
    {w W : World} {b : List UInt8} {C : Array Value} {i : Int} {v : Value} {l : List Ent} (h : GetSt w W b C i v l) (hl : l.length ≤ 1000) (y : Ent)
    (hgd : o.guard = none) (s x : Operand) (ho : o.op = .call { callee := .builtin .append, args := #[s, x], argTypes := #[22, 22] }) (hs : a.eval s = v) (hx : a.eval x = .slice (some ⟨W.heap.size, 0, none⟩) 1 1)
    (k : ∀ A n c w', GetSt w w' b C i (.slice A n c) (l ++ [y]) → K (a.put o.dst (.slice A n c)) w') :
    if Region.wanted o (yielded ops a.tmps) = true then Oper.wp Try.prog o a (W.alloc (.cells #[.int .i64 y.k, .int .i64 y.n, .int .i64 y.p] 42)) K Q else E' := by
  obtain ⟨hB, hz, hO, hX, hG⟩ := h
  refine El.step EE (w0 := W.alloc (.cells #[.int .i64 y.k, .int .i64 y.n, .int .i64 y.p] 42)) hgd s x ho (w.heap.size + 2) v l y W.heap.size #[.int .i64 y.k, .int .i64 y.n, .int .i64 y.p] hs (hO.alloc _) hx (heap_alloc_new W _) rfl (by simp only [EE]; omega) (by omega) (by simp; omega) (Below.refl _ _) ?_
  intro v' w1 ho hb hg
  have hB1 := hB.alloc (by omega) (.cells #[.int .i64 y.k, .int .i64 y.n, .int .i64 y.p] 42)
  obtain ⟨A, c, rfl, _⟩ := ho.reads
  refine k _ _ _ w1 ⟨hB1.grown hg (by simp; omega) (fun k e => by have := (hO.lt k e).1; omega), Nat.le_trans (by simp; omega) hg.size, ho, ?_, ?_⟩
  · rw [hg.block _ (by simp; omega) (fun e => by have := (hO.lt _ e.symm).1; omega), Below.heap_alloc _ _ _ (by omega)]; exact hX
  · rw [hg.block _ (by simp; omega) (fun e => by have := (hO.lt _ e.symm).1; omega), Below.heap_alloc _ _ _ (by omega)]; exact hG

theorem step_get {ops : Array Oper} {o : Oper} {a : Act} {Q : Exit → Act → World → Prop} {K : Act → World → Prop} {E' : Prop}
    {w W : World} {b : List UInt8} {C : Array Value} {i : Int} {v : Value} {l : List Ent} (h : GetSt w W b C i v l) (hL : b.length ≤ 140737488351232) (n : Int) (hi : 0 ≤ i) (hi1 : i ≤ 100000) (hn : 0 ≤ n) (hn1 : n ≤ 100000)
    (hgd : o.guard = none) (fx x : Operand) (ho : o.op = .call { callee := .value fx, args := #[x], argTypes := #[3] }) (hf : a.eval fx = .func (.func 91) #[.pointer (some ⟨w.heap.size + 1, 0, none⟩)] #[]) (hx : a.eval x = .int .i64 n)
    (k : ∀ w', GetSt w w' b C (i + n) v l → K (a.put o.dst (.int .i64 (num b i n))) w') :
    if Region.wanted o (yielded ops a.tmps) = true then Oper.wp Try.prog o a W K Q else E' := by
  have hw : Region.wanted o (yielded ops a.tmps) = true := by simp [Region.wanted, hgd]
  rw [if_pos hw]
  unfold Oper.wp
  simp only [execOp, ho, resolve, hf, hx, List.map_toArray, List.map_cons, List.map_nil]
  simp [go_sem]
  refine (rget_st h hL n hi hi1 hn hn1).mono ?_
  rintro e w' ⟨rfl, hst⟩
  exact k w' hst

section
attribute [local go_sem] bs_size bs_extract
set_option maxRecDepth 100000 in
set_option maxHeartbeats 1000000 in
theorem headGet_short (s : List UInt8) (w : World) (hs : s.length < 256) :
    Calls Try.prog 30 #[.string (bs s)] w fun e w' => e = .returned (.tuple #[.agg #[.int .i64 0, .int .i64 0, .int .i64 0, .int .i64 0, .int .i64 0, .int .i64 0, .int .i64 0, .int .i64 0, .slice none 0 0], .int .i64 0, .bool false]) ∧ Below w.heap.size w w' := by
  go_enter Try.func30, Try.ntmps30
  go_wp2
  refine bodyPost_ret (v := .tuple #[.agg #[.int .i64 0, .int .i64 0, .int .i64 0, .int .i64 0, .int .i64 0, .int .i64 0, .int .i64 0, .int .i64 0, .slice none 0 0], .int .i64 0, .bool false]) (by simp [results, Try.results30, go_sem]) rfl ⟨rfl, ?_⟩
  exact (Below.refl _ _).alloc (Nat.le_refl _) _
end
end Go.Proofs.Ytjoplgdcpihmaaa
