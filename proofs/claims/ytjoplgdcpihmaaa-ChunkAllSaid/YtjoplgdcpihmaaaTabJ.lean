/- The setters on Get's state; slices.Clone. -/
import Derived.Test.YtjoplgdcpihmaaaTabI
import Derived.Test.YtjoplgdcpihmaaaMem2
namespace Go.Proofs.Ytjoplgdcpihmaaa
open Go.RowKit
set_option maxRecDepth 100000 in
/-- Field k: how many bytes, and its setter. -/
theorem fld_set (g : Nat → Nat) (k : Nat) (hk : k < 10) : ∃ (f : FuncId) (cap : Array Value) (f2 : FuncId) (cap2 : Array Value), (fldCells g)[3 * k]? = some (.int .i64 (fldNb k)) ∧ (fldCells g)[3 * k + 1]? = some (.func (.func f) #[] cap) ∧ (fldCells g)[3 * k + 2]? = some (.func (.func f2) #[] cap2) ∧
    (∀ (args : Array Value) (W : World), (callFunc f2 args).run Try.prog W = .ok (.enter f2 args) W) ∧
    ∀ (w W : World) (fb : Nat) (s : List UInt8) (lb : Nat) (pos : Int) (l : List HM) (i : Nat) (x : HM) (v : Int), GSt w W s lb pos l → FldSt W fb g → l[i]? = some x → v ≤ 9223372036854775807 →
      Calls Try.prog f2 (#[.pointer (some ⟨lb, i * 10, none⟩), .int .i64 v] ++ cap2) W fun e w' => e = .returned (.tuple #[]) ∧ ∃ x', x'.d = setF x.d k v ∧ GSt w w' s lb pos (l.set i x') ∧ W.grownBy w' (some lb) := by
  have hk' : k = 0 ∨ k = 1 ∨ k = 2 ∨ k = 3 ∨ k = 4 ∨ k = 5 ∨ k = 6 ∨ k = 7 ∨ k = 8 ∨ k = 9 := by omega
  rcases hk' with rfl | rfl | rfl | rfl | rfl | rfl | rfl | rfl | rfl | rfl
  · refine ⟨144, #[.pointer (some ⟨g 0, 0, none⟩)], 145, #[.pointer (some ⟨g 0, 0, none⟩)], rfl, rfl, rfl, cf145, fun w W fb s lb pos l i x v h hF hi hv => ?_⟩
    have h1 := cell_of_row _ _ 0 _ _ _ (hF.2 0 (by decide))
    have h2 := h.at' i x hi 0 _ rfl
    refine (setter_any 126 lb (i * 10) (i * 10 + 0) (g 0) _ .i64 v W cf126 (fun W => by have := at0_any lb (i * 10) W; simpa using this) h1 h2.1 h2.2).mono ?_
    rintro e w' ⟨rfl, rfl⟩
    exact ⟨rfl, _, rfl, h.field i x hi 0 (by decide) v, grown_cell W ⟨lb, i * 10 + 0, none⟩ _⟩
  · refine ⟨144, #[.pointer (some ⟨g 1, 0, none⟩)], 145, #[.pointer (some ⟨g 1, 0, none⟩)], rfl, rfl, rfl, cf145, fun w W fb s lb pos l i x v h hF hi hv => ?_⟩
    have h1 := cell_of_row _ _ 0 _ _ _ (hF.2 1 (by decide))
    have h2 := h.at' i x hi 1 _ rfl
    refine (setter_any 127 lb (i * 10) (i * 10 + 1) (g 1) _ .i64 v W cf127 (fun W => by have := at1_any lb (i * 10) W; simpa using this) h1 h2.1 h2.2).mono ?_
    rintro e w' ⟨rfl, rfl⟩
    exact ⟨rfl, _, rfl, h.field i x hi 1 (by decide) v, grown_cell W ⟨lb, i * 10 + 1, none⟩ _⟩
  · refine ⟨144, #[.pointer (some ⟨g 2, 0, none⟩)], 145, #[.pointer (some ⟨g 2, 0, none⟩)], rfl, rfl, rfl, cf145, fun w W fb s lb pos l i x v h hF hi hv => ?_⟩
    have h1 := cell_of_row _ _ 0 _ _ _ (hF.2 2 (by decide))
    have h2 := h.at' i x hi 2 _ rfl
    refine (setter_any 128 lb (i * 10) (i * 10 + 2) (g 2) _ .i64 v W cf128 (fun W => by have := at2_any lb (i * 10) W; simpa using this) h1 h2.1 h2.2).mono ?_
    rintro e w' ⟨rfl, rfl⟩
    exact ⟨rfl, _, rfl, h.field i x hi 2 (by decide) v, grown_cell W ⟨lb, i * 10 + 2, none⟩ _⟩
  · refine ⟨144, #[.pointer (some ⟨g 3, 0, none⟩)], 145, #[.pointer (some ⟨g 3, 0, none⟩)], rfl, rfl, rfl, cf145, fun w W fb s lb pos l i x v h hF hi hv => ?_⟩
    have h1 := cell_of_row _ _ 0 _ _ _ (hF.2 3 (by decide))
    have h2 := h.at' i x hi 3 _ rfl
    refine (setter_any 129 lb (i * 10) (i * 10 + 3) (g 3) _ .i64 v W cf129 (fun W => by have := at3_any lb (i * 10) W; simpa using this) h1 h2.1 h2.2).mono ?_
    rintro e w' ⟨rfl, rfl⟩
    exact ⟨rfl, _, rfl, h.field i x hi 3 (by decide) v, grown_cell W ⟨lb, i * 10 + 3, none⟩ _⟩
  · refine ⟨144, #[.pointer (some ⟨g 4, 0, none⟩)], 145, #[.pointer (some ⟨g 4, 0, none⟩)], rfl, rfl, rfl, cf145, fun w W fb s lb pos l i x v h hF hi hv => ?_⟩
    have h1 := cell_of_row _ _ 0 _ _ _ (hF.2 4 (by decide))
    have h2 := h.at' i x hi 4 _ rfl
    refine (setter_any 130 lb (i * 10) (i * 10 + 4) (g 4) _ .i64 v W cf130 (fun W => by have := at4_any lb (i * 10) W; simpa using this) h1 h2.1 h2.2).mono ?_
    rintro e w' ⟨rfl, rfl⟩
    exact ⟨rfl, _, rfl, h.field i x hi 4 (by decide) v, grown_cell W ⟨lb, i * 10 + 4, none⟩ _⟩
  · refine ⟨144, #[.pointer (some ⟨g 5, 0, none⟩)], 145, #[.pointer (some ⟨g 5, 0, none⟩)], rfl, rfl, rfl, cf145, fun w W fb s lb pos l i x v h hF hi hv => ?_⟩
    have h1 := cell_of_row _ _ 0 _ _ _ (hF.2 5 (by decide))
    have h2 := h.at' i x hi 5 _ rfl
    refine (setter_any 131 lb (i * 10) (i * 10 + 5) (g 5) _ .i64 v W cf131 (fun W => by have := at5_any lb (i * 10) W; simpa using this) h1 h2.1 h2.2).mono ?_
    rintro e w' ⟨rfl, rfl⟩
    exact ⟨rfl, _, rfl, h.field i x hi 5 (by decide) v, grown_cell W ⟨lb, i * 10 + 5, none⟩ _⟩
  · refine ⟨144, #[.pointer (some ⟨g 6, 0, none⟩)], 145, #[.pointer (some ⟨g 6, 0, none⟩)], rfl, rfl, rfl, cf145, fun w W fb s lb pos l i x v h hF hi hv => ?_⟩
    have h1 := cell_of_row _ _ 0 _ _ _ (hF.2 6 (by decide))
    have h2 := h.at' i x hi 6 _ rfl
    refine (setter_any 132 lb (i * 10) (i * 10 + 6) (g 6) _ .i64 v W cf132 (fun W => by have := at6_any lb (i * 10) W; simpa using this) h1 h2.1 h2.2).mono ?_
    rintro e w' ⟨rfl, rfl⟩
    exact ⟨rfl, _, rfl, h.field i x hi 6 (by decide) v, grown_cell W ⟨lb, i * 10 + 6, none⟩ _⟩
  · refine ⟨144, #[.pointer (some ⟨g 7, 0, none⟩)], 145, #[.pointer (some ⟨g 7, 0, none⟩)], rfl, rfl, rfl, cf145, fun w W fb s lb pos l i x v h hF hi hv => ?_⟩
    have h1 := cell_of_row _ _ 0 _ _ _ (hF.2 7 (by decide))
    have h2 := h.at' i x hi 7 _ rfl
    refine (setter_any 133 lb (i * 10) (i * 10 + 7) (g 7) _ .i64 v W cf133 (fun W => by have := at7_any lb (i * 10) W; simpa using this) h1 h2.1 h2.2).mono ?_
    rintro e w' ⟨rfl, rfl⟩
    exact ⟨rfl, _, rfl, h.field i x hi 7 (by decide) v, grown_cell W ⟨lb, i * 10 + 7, none⟩ _⟩
  · refine ⟨144, #[.pointer (some ⟨g 8, 0, none⟩)], 145, #[.pointer (some ⟨g 8, 0, none⟩)], rfl, rfl, rfl, cf145, fun w W fb s lb pos l i x v h hF hi hv => ?_⟩
    have h1 := cell_of_row _ _ 0 _ _ _ (hF.2 8 (by decide))
    have h2 := h.at' i x hi 8 _ rfl
    refine (setter_any 134 lb (i * 10) (i * 10 + 8) (g 8) _ .i64 v W cf134 (fun W => by have := at8_any lb (i * 10) W; simpa using this) h1 h2.1 h2.2).mono ?_
    rintro e w' ⟨rfl, rfl⟩
    exact ⟨rfl, _, rfl, h.field i x hi 8 (by decide) v, grown_cell W ⟨lb, i * 10 + 8, none⟩ _⟩
  · exact ⟨135, #[], 136, #[], rfl, rfl, rfl, cf136, fun w W fb s lb pos l i x v h hF hi hv => segset_any w W s lb pos l i x v h hi hv⟩
theorem nil_eq (w : World) : (binOp .eql 58 (.slice none 0 0) (.slice none 0 0)).run Try.prog w = .ok (.bool true) w := by
  first | kernel_rfl | simp [binOp, go_sem]
theorem some_eq (w : World) (a : Addr) (n c : Nat) : (binOp .eql 58 (.slice (some a) n c) (.slice none 0 0)).run Try.prog w = .ok (.bool false) w := by
  first | kernel_rfl | simp [binOp, go_sem]
section
set_option maxRecDepth 100000 in
set_option maxHeartbeats 1000000 in
theorem clone_any (A : Option Addr) (c : Nat) (l : List Int) (w : World) (hr : EI.Reads w (.slice A l.length c) l) (hA : A = none → c = 0) (hl : l.length ≤ 100000) :
    Calls Try.prog 104 #[.slice A l.length c] w fun e w' => ∃ A' c', e = .returned (.slice A' l.length c') ∧ EI.Own w' w.heap.size (.slice A' l.length c') l ∧ Below w.heap.size w w' := by
  cases A with
  | none =>
    obtain rfl := hA rfl
    have hl0 : l = [] := by
      obtain ⟨A, c, e, h1, h2⟩ := hr
      injection e with e1 e2 e3
      exact List.eq_nil_of_length_eq_zero (by omega)
    subst hl0
    have heq := nil_eq w
    go_enter Try.func104, Try.ntmps104
    go_wp2
    refine bodyPost_ret (v := .slice none 0 0) (by simp [results, Try.results104, go_sem]) rfl ⟨none, 0, rfl, El.Own.nil _ _, Below.refl _ _⟩
  | some a =>
    obtain ⟨b, o, p⟩ := a
    have HR := Lib.hid (hr.below ((Below.refl w.heap.size w).alloc (Nat.le_refl _) (.cells #[] 3)))
    have HO : Hid (EI.Own (w.alloc (.cells #[] 3)) w.heap.size (.slice (some ⟨w.heap.size, 0, none⟩) 0 0) []) := World.ownsRow_lit w #[] 0 (Nat.le_refl _) (by decide) rfl
    have HB := Lib.hid ((Below.refl w.heap.size w).alloc (Nat.le_refl _) (.cells #[] 3))
    have heq := some_eq w ⟨b, o, p⟩ l.length c
    clear hr hA
    go_enter Try.func104, Try.ntmps104
    go_wp2_with (at_builtin; refine EI.app_all (w0 := w) rfl _ _ rfl w.heap.size (.slice (some ⟨w.heap.size, 0, none⟩) 0 0) _ [] l rfl HO.out rfl HR.out ?cn ?cb ?cm ?cz HB.out ?_; (case cn => intro c e; cases e); (case cb => simp [EI]; omega); (case cm => simp; omega); (case cz => simp); intro v' w1 ho hb hg; obtain ⟨A2, c2, rfl, -⟩ := ho.reads; have HO1 := Lib.hid ho; have HB1 := Lib.hid hb; clear ho hb hg)
    refine bodyPost_ret (v := .slice A2 l.length c2) (by simp [results, Try.results104, go_sem]) rfl ⟨A2, c2, rfl, HO1.out, HB1.out⟩
end
end Go.Proofs.Ytjoplgdcpihmaaa
