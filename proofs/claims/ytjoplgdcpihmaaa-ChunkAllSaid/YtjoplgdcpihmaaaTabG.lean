/- A house's bytes: the fields' values in turn, appended. -/
import Derived.Test.YtjoplgdcpihmaaaTabF
import Derived.Test.YtjoplgdcpihmaaaBO
namespace Go.Proofs.Ytjoplgdcpihmaaa
open Go.RowKit
def fldVal (d : HD) : Nat → Int
  | 0 => d.st
  | 1 => d.gn
  | 2 => d.x.sg
  | 3 => d.x.hb
  | 4 => d.x.sb
  | 5 => d.x.hn
  | 6 => d.x.sn
  | 7 => d.x.gr
  | 8 => d.x.bu
  | _ => d.segs.length
def fldNb : Nat → Int
  | 0 => 1
  | 1 => 2
  | 2 => 1
  | 3 => 3
  | 4 => 3
  | 5 => 1
  | 6 => 1
  | 7 => 6
  | 8 => 2
  | _ => 1
def fldBytes (d : HD) (k : Nat) : List UInt8 := (List.range k).flatMap fun i => putB (fldVal d i) (fldNb i)
theorem fldBytes_succ (d : HD) (k : Nat) : fldBytes d (k + 1) = fldBytes d k ++ putB (fldVal d k) (fldNb k) := by simp [fldBytes, List.range_succ]
def segAt (l : List Int) (k : Nat) : Int := if k < l.length then nthI l k else 0
def segBytes (l : List Int) (k : Nat) : List UInt8 := (List.range k).flatMap fun i => putB (segAt l i) 2
theorem segBytes_succ (l : List Int) (k : Nat) : segBytes l (k + 1) = segBytes l k ++ putB (segAt l k) 2 := by simp [segBytes, List.range_succ]
def houseBytes (d : HD) : List UInt8 := fldBytes d 10 ++ segBytes d.segs 40
theorem fldBytes_le (d : HD) (k : Nat) : (fldBytes d k).length ≤ 7 * k := by
  induction k with
  | zero => simp [fldBytes]
  | succ k ih => rw [fldBytes_succ, List.length_append, putB_length]; omega
theorem segBytes_len (l : List Int) (k : Nat) : (segBytes l k).length = 2 * k := by
  induction k with
  | zero => simp [segBytes]
  | succ k ih => rw [segBytes_succ, List.length_append, putB_length, ih]; omega
theorem houseBytes_len (d : HD) : (houseBytes d).length = 101 := by
  unfold houseBytes
  rw [List.length_append, segBytes_len]
  have : (fldBytes d 10).length = 21 := by
    simp only [fldBytes_succ, List.length_append, putB_length, fldNb]
    simp [fldBytes]
    rfl
  omega
theorem cf135 (args : Array Value) (W : World) : (callFunc 135 args).run Try.prog W = .ok (.enter 135 args) W := by simp [go_sem]
theorem cf144 (args : Array Value) (W : World) : (callFunc 144 args).run Try.prog W = .ok (.enter 144 args) W := by simp [go_sem]
set_option maxRecDepth 100000 in
/-- Field k: how many bytes, and its getter. -/
theorem fld_get (g : Nat → Nat) (k : Nat) (hk : k < 10) : ∃ (f : FuncId) (cap : Array Value) (f2 : FuncId) (cap2 : Array Value), (fldCells g)[3 * k]? = some (.int .i64 (fldNb k)) ∧ (fldCells g)[3 * k + 1]? = some (.func (.func f) #[] cap) ∧ (fldCells g)[3 * k + 2]? = some (.func (.func f2) #[] cap2) ∧
    (∀ (args : Array Value) (W : World), (callFunc f args).run Try.prog W = .ok (.enter f args) W) ∧
    ∀ (W : World) (fb hb : Nat) (x : HM), FldSt W fb g → (∀ j : Nat, W.cell? ⟨hb, j, none⟩ = (#[.int .i64 x.d.st, .int .i64 x.d.gn, .int .i64 x.d.x.sg, .int .i64 x.d.x.hb, .int .i64 x.d.x.sb, .int .i64 x.d.x.hn, .int .i64 x.d.x.sn, .int .i64 x.d.x.gr, .int .i64 x.d.x.bu, .slice x.A x.d.segs.length x.c] : Array Value)[j]?) → Calls Try.prog f (#[.pointer (some ⟨hb, 0, none⟩)] ++ cap) W fun e w' => e = .returned (.int .i64 (fldVal x.d k)) ∧ W = w' := by
  have hk' : k = 0 ∨ k = 1 ∨ k = 2 ∨ k = 3 ∨ k = 4 ∨ k = 5 ∨ k = 6 ∨ k = 7 ∨ k = 8 ∨ k = 9 := by omega
  rcases hk' with rfl | rfl | rfl | rfl | rfl | rfl | rfl | rfl | rfl | rfl
  · refine ⟨144, #[.pointer (some ⟨g 0, 0, none⟩)], 145, #[.pointer (some ⟨g 0, 0, none⟩)], rfl, rfl, rfl, cf144, fun W fb hb x hF hc => ?_⟩
    have h1 := cell_of_row _ _ 0 _ _ _ (hF.2 0 (by decide))
    have h2 : W.cell? ⟨hb, 0, none⟩ = some (.int .i64 x.d.st) := hc 0
    exact getter_any 126 hb 0 0 (g 0) _ .i64 _ rfl W cf126 (fun W => by have := at0_any hb 0 W; simpa using this) h1 h2
  · refine ⟨144, #[.pointer (some ⟨g 1, 0, none⟩)], 145, #[.pointer (some ⟨g 1, 0, none⟩)], rfl, rfl, rfl, cf144, fun W fb hb x hF hc => ?_⟩
    have h1 := cell_of_row _ _ 0 _ _ _ (hF.2 1 (by decide))
    have h2 : W.cell? ⟨hb, 1, none⟩ = some (.int .i64 x.d.gn) := hc 1
    exact getter_any 127 hb 0 1 (g 1) _ .i64 _ rfl W cf127 (fun W => by have := at1_any hb 0 W; simpa using this) h1 h2
  · refine ⟨144, #[.pointer (some ⟨g 2, 0, none⟩)], 145, #[.pointer (some ⟨g 2, 0, none⟩)], rfl, rfl, rfl, cf144, fun W fb hb x hF hc => ?_⟩
    have h1 := cell_of_row _ _ 0 _ _ _ (hF.2 2 (by decide))
    have h2 : W.cell? ⟨hb, 2, none⟩ = some (.int .i64 x.d.x.sg) := hc 2
    exact getter_any 128 hb 0 2 (g 2) _ .i64 _ rfl W cf128 (fun W => by have := at2_any hb 0 W; simpa using this) h1 h2
  · refine ⟨144, #[.pointer (some ⟨g 3, 0, none⟩)], 145, #[.pointer (some ⟨g 3, 0, none⟩)], rfl, rfl, rfl, cf144, fun W fb hb x hF hc => ?_⟩
    have h1 := cell_of_row _ _ 0 _ _ _ (hF.2 3 (by decide))
    have h2 : W.cell? ⟨hb, 3, none⟩ = some (.int .i64 x.d.x.hb) := hc 3
    exact getter_any 129 hb 0 3 (g 3) _ .i64 _ rfl W cf129 (fun W => by have := at3_any hb 0 W; simpa using this) h1 h2
  · refine ⟨144, #[.pointer (some ⟨g 4, 0, none⟩)], 145, #[.pointer (some ⟨g 4, 0, none⟩)], rfl, rfl, rfl, cf144, fun W fb hb x hF hc => ?_⟩
    have h1 := cell_of_row _ _ 0 _ _ _ (hF.2 4 (by decide))
    have h2 : W.cell? ⟨hb, 4, none⟩ = some (.int .i64 x.d.x.sb) := hc 4
    exact getter_any 130 hb 0 4 (g 4) _ .i64 _ rfl W cf130 (fun W => by have := at4_any hb 0 W; simpa using this) h1 h2
  · refine ⟨144, #[.pointer (some ⟨g 5, 0, none⟩)], 145, #[.pointer (some ⟨g 5, 0, none⟩)], rfl, rfl, rfl, cf144, fun W fb hb x hF hc => ?_⟩
    have h1 := cell_of_row _ _ 0 _ _ _ (hF.2 5 (by decide))
    have h2 : W.cell? ⟨hb, 5, none⟩ = some (.int .i64 x.d.x.hn) := hc 5
    exact getter_any 131 hb 0 5 (g 5) _ .i64 _ rfl W cf131 (fun W => by have := at5_any hb 0 W; simpa using this) h1 h2
  · refine ⟨144, #[.pointer (some ⟨g 6, 0, none⟩)], 145, #[.pointer (some ⟨g 6, 0, none⟩)], rfl, rfl, rfl, cf144, fun W fb hb x hF hc => ?_⟩
    have h1 := cell_of_row _ _ 0 _ _ _ (hF.2 6 (by decide))
    have h2 : W.cell? ⟨hb, 6, none⟩ = some (.int .i64 x.d.x.sn) := hc 6
    exact getter_any 132 hb 0 6 (g 6) _ .i64 _ rfl W cf132 (fun W => by have := at6_any hb 0 W; simpa using this) h1 h2
  · refine ⟨144, #[.pointer (some ⟨g 7, 0, none⟩)], 145, #[.pointer (some ⟨g 7, 0, none⟩)], rfl, rfl, rfl, cf144, fun W fb hb x hF hc => ?_⟩
    have h1 := cell_of_row _ _ 0 _ _ _ (hF.2 7 (by decide))
    have h2 : W.cell? ⟨hb, 7, none⟩ = some (.int .i64 x.d.x.gr) := hc 7
    exact getter_any 133 hb 0 7 (g 7) _ .i64 _ rfl W cf133 (fun W => by have := at7_any hb 0 W; simpa using this) h1 h2
  · refine ⟨144, #[.pointer (some ⟨g 8, 0, none⟩)], 145, #[.pointer (some ⟨g 8, 0, none⟩)], rfl, rfl, rfl, cf144, fun W fb hb x hF hc => ?_⟩
    have h1 := cell_of_row _ _ 0 _ _ _ (hF.2 8 (by decide))
    have h2 : W.cell? ⟨hb, 8, none⟩ = some (.int .i64 x.d.x.bu) := hc 8
    exact getter_any 134 hb 0 8 (g 8) _ .i64 _ rfl W cf134 (fun W => by have := at8_any hb 0 W; simpa using this) h1 h2
  · refine ⟨135, #[], 136, #[], rfl, rfl, rfl, cf135, fun W fb hb x hF hc => ?_⟩
    have h2 : W.cell? ⟨hb, 0 + 9, none⟩ = some (.slice x.A x.d.segs.length x.c) := hc 9
    exact lenGet_any hb 0 x.A x.d.segs.length x.c W h2

/-- A call of a closure, as a step of a region that draws its order. -/
theorem step_clos {ops : Array Oper} {o : Oper} {a : Act} {Q : Exit → Act → World → Prop} {K : Act → World → Prop} {E' : Prop} {W : World}
    (f : FuncId) (hcf : ∀ (args : Array Value) (W : World), (callFunc f args).run Try.prog W = .ok (.enter f args) W)
    (fx : Operand) (xs : List Operand) (ts : Array TypeId) (ho : o.op = .call { callee := .value fx, args := xs.toArray, argTypes := ts }) (hw : Region.wanted o (yielded ops a.tmps) = true)
    (cap : Array Value) (hf : a.eval fx = .func (.func f) #[] cap) (args : List Value) (hx : xs.map a.eval = args) (R : Ending → World → Prop) (hc : Calls Try.prog f (args.toArray ++ cap) W R)
    (k : ∀ e w', R e w' → ∃ v, e = .returned v ∧ K (a.put o.dst v) w') :
    if Region.wanted o (yielded ops a.tmps) = true then Oper.wp Try.prog o a W K Q else E' := by
  rw [if_pos hw]
  unfold Oper.wp
  simp only [execOp, ho, resolve, List.map_toArray, hx, hf]
  simp only [Deferred.ofValue, Sem.run_bind, Sem.run_pure, Result.andThen_ok, invoke, hcf, Array.empty_append, Oper.upon]
  refine hc.mono ?_
  intro e w' h
  obtain ⟨v, rfl, hk⟩ := k e w' h
  exact hk
/-- append(b, s...) inside a region that draws its order. -/
theorem BO.step_str {ops : Array Oper} {o : Oper} {a : Act} {Q : Exit → Act → World → Prop} {K : Act → World → Prop} {E' : Prop} {W : World} {base : Nat} {v : Value} {l : List UInt8} (h : BO W base v l) (m : List UInt8)
    (hb : base ≤ W.heap.size) (hl : l.length + m.length ≤ 140737488355328) (hgd : o.guard = none) (s x : Operand) (ho : o.op = .call { callee := .builtin .append, args := #[s, x], argTypes := #[38, 9] }) (hs : a.eval s = v) (hx : a.eval x = .string (bs m))
    (k : ∀ v' w', BO w' base v' (l ++ m) → W.grownBy w' v.ownBlock → K (a.put o.dst v') w') :
    if Region.wanted o (yielded ops a.tmps) = true then Oper.wp Try.prog o a W K Q else E' := by
  have hw : Region.wanted o (yielded ops a.tmps) = true := by simp [Region.wanted, hgd]
  rw [if_pos hw]
  obtain ⟨v', w', hr, h1, h2⟩ := h.run_str m o.type hb hl
  exact Lib.wp_append_run W s x 38 9 ho _ _ hs hx v' w' hr (k v' w' h1 h2)
theorem BO.list_str {ops : Array Oper} {rest : List Oper} {o : Oper} {a : Act} {Q : Exit → Act → World → Prop} {W : World} {base : Nat} {v : Value} {l : List UInt8} (h : BO W base v l) (m : List UInt8)
    (hb : base ≤ W.heap.size) (hl : l.length + m.length ≤ 140737488355328) (hgd : o.guard = none) (s x : Operand) (ho : o.op = .call { callee := .builtin .append, args := #[s, x], argTypes := #[38, 9] }) (hs : a.eval s = v) (hx : a.eval x = .string (bs m))
    (k : ∀ v' w', BO w' base v' (l ++ m) → W.grownBy w' v.ownBlock → wpList Try.prog ops Q rest (a.put o.dst v') w') : wpList Try.prog ops Q (o :: rest) a W := by
  obtain ⟨v', w', hr, h1, h2⟩ := h.run_str m o.type hb hl
  exact Lib.wpList_append_run W hgd s x 38 9 ho _ _ hs hx v' w' hr (k v' w' h1 h2)
theorem BO.list_zeros {ops : Array Oper} {rest : List Oper} {o : Oper} {a : Act} {Q : Exit → Act → World → Prop} {W : World} {base : Nat} {v : Value} {l : List UInt8} (h : BO W base v l) (n : Nat) (hn : 0 < n)
    (hb : base ≤ W.heap.size) (hl : l.length + n ≤ 140737488355328) (hgd : o.guard = none) (s x : Operand) (ho : o.op = .call { callee := .builtin .append, args := #[s, x], argTypes := #[38, 3] }) (hs : a.eval s = v) (hx : a.eval x = .int .i64 n)
    (k : ∀ v' w', BO w' base v' (l ++ List.replicate n 0) → W.grownBy w' v.ownBlock → wpList Try.prog ops Q rest (a.put o.dst v') w') : wpList Try.prog ops Q (o :: rest) a W := by
  obtain ⟨v', w', hr, h1, h2⟩ := h.run_zeros n hn o.type hb hl
  exact Lib.wpList_append_run W hgd s x 38 3 ho _ _ hs hx v' w' hr (k v' w' h1 h2)
end Go.Proofs.Ytjoplgdcpihmaaa
