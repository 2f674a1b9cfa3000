/- Small functions of the laws over heads: few, num, copied, Filled. -/
import Derived.Test.YtjoplgdcpihmaaaHeadJ
import Derived.Test.YtjoplgdcpihmaaaMem2
namespace Go.Proofs.Ytjoplgdcpihmaaa
open Go.RowKit
section
attribute [local go_sem] bs_size
def few8B (l : List Ent) (body : List UInt8) : Bool := decide (l.length ≤ 40) && decide (body.length ≤ 7680)
set_option maxRecDepth 100000 in
set_option maxHeartbeats 1000000 in
theorem few8_any (h : Hd) (v : Value) (l : List Ent) (body : List UInt8) (w : World) (hr : EE.Reads w v l) :
    Calls Try.prog 25 #[.agg #[.int .i64 h.house, .int .i64 h.gen, .int .i64 h.life, .int .i64 h.seq, .int .i64 h.next, .int .i64 h.clock, .int .i64 h.sb, .int .i64 h.sn, v], .string (bs body)] w
      fun e w' => e = .returned (.bool (few8B l body)) ∧ Below w.heap.size w w' := by
  obtain ⟨A, c, rfl, hc, -⟩ := hr
  have HB0 : Hid (Below w.heap.size w (w.alloc (.cells #[.int .i64 h.house, .int .i64 h.gen, .int .i64 h.life, .int .i64 h.seq, .int .i64 h.next, .int .i64 h.clock, .int .i64 h.sb, .int .i64 h.sn, .slice A l.length c] 24))) := (Below.refl _ _).alloc (Nat.le_refl _) _
  by_cases h40 : l.length ≤ 40
  · have hd : decide ((l.length : Int) ≤ 40) = true := decide_eq_true (by omega)
    have HF : Hid (few8B l body = decide ((body.length : Int) ≤ 7680)) := by
      unfold Hid few8B; rw [decide_eq_true h40, Bool.true_and]; congr 1; apply propext; omega
    go_enter Try.func25, Try.ntmps25
    go_wp2
    go_ret
    exact ⟨ret_bool HF.out.symm, HB0.out⟩
  · have hd : decide ((l.length : Int) ≤ 40) = false := decide_eq_false (by omega)
    have HF : Hid (few8B l body = false) := by
      unfold Hid few8B; rw [decide_eq_false h40, Bool.false_and]
    go_enter Try.func25, Try.ntmps25
    go_wp2
    go_ret
    exact ⟨ret_bool HF.out.symm, HB0.out⟩
end
set_option maxRecDepth 100000 in
set_option maxHeartbeats 1000000 in
theorem refnum_any (s : List UInt8) (i n : Int) (w : World) (hs : s.length ≤ 140737488351232) :
    Calls Try.prog 92 #[.string (bs s), .int .i64 i, .int .i64 n] w fun e w' => e = .returned (.int .i64 (num s i n)) ∧ w = w' := by
  go_enter Try.func92, Try.ntmps92
  go_wp2_with fail
  refine (refGet_any s i n _ hs).mono ?_
  rintro e w1 ⟨rfl, rfl⟩
  have HN : Hid (num s i n = (getB s i n).getD 0) := rfl
  generalize (getB s i n).getD 0 = x at *
  generalize (getB s i n).isSome = y at *
  go_wp2
  go_ret
  exact ⟨ret_int HN.out.symm, rfl⟩

/-- A struct result (block 1 of the call's own) under way, a slice of the call's own beside it. -/
def ResSt (w W : World) (C : Array Value) (v : Value) (l : List Ent) : Prop :=
  Below w.heap.size w W ∧ w.heap.size + 2 ≤ W.heap.size ∧ EE.Own W (w.heap.size + 2) v l ∧ W.heap[w.heap.size + 1]? = some (.cells C 24 (0, 0))
theorem ResSt.set {w W : World} {C : Array Value} {v : Value} {l : List Ent} (h : ResSt w W C v l) (j : Nat) (u : Value) : ResSt w (W.setCell ⟨w.heap.size + 1, j, none⟩ u) (C.setIfInBounds j u) v l := by
  obtain ⟨hB, hz, hO, hX⟩ := h
  refine ⟨hB.setCell (by simp) u, by simpa [World.setCell] using hz, ?_, heap_set hX j u⟩
  exact hO.kept (row := some (w.heap.size + 1)) ⟨rfl, rfl, rfl, by simp [World.setCell], fun k hk hne => Below.heap_setCell _ _ _ _ (fun e => hne (by rw [e]))⟩ (hO.ne _ (by omega))
theorem ResSt.set0 {w W : World} {C : Array Value} {v : Value} {l : List Ent} (h : ResSt w W C v l) (j : Nat) (u : Value) : ResSt w (W.setCell ⟨w.heap.size, j, none⟩ u) C v l := by
  obtain ⟨hB, hz, hO, hX⟩ := h
  refine ⟨hB.setCell (Nat.le_refl _) u, by simpa [World.setCell] using hz, ?_, (Below.heap_setCell _ _ _ _ (by simp)).trans hX⟩
  exact hO.kept (row := some w.heap.size) ⟨rfl, rfl, rfl, by simp [World.setCell], fun k hk hne => Below.heap_setCell _ _ _ _ (fun e => hne (by rw [e]))⟩ (hO.ne _ (by omega))
theorem ResSt.at' {w W : World} {C C' : Array Value} {v : Value} {l : List Ent} (h : ResSt w W C v l) (hC : C = C') : ResSt w W C' v l := by subst hC; exact h
theorem ResSt.cell {w W : World} {C : Array Value} {v : Value} {l : List Ent} (h : ResSt w W C v l) (j : Nat) : W.cell? ⟨w.heap.size + 1, j, none⟩ = C[j]? := cell_of_row _ _ j _ _ _ h.2.2.2
set_option maxRecDepth 100000 in
set_option maxHeartbeats 1000000 in
theorem copied8_any (h : Hd) (v : Value) (l : List Ent) (w : World) (hr : EE.Reads w v l) (hn : ∀ c, v = .slice none 0 c → c = 0) (hl : l.length ≤ 1000) :
    Calls Try.prog 28 #[.agg #[.int .i64 h.house, .int .i64 h.gen, .int .i64 h.life, .int .i64 h.seq, .int .i64 h.next, .int .i64 h.clock, .int .i64 h.sb, .int .i64 h.sn, v]] w
      fun e w' => Below w.heap.size w w' ∧ ∃ A c, EE.Own w' w.heap.size (.slice A l.length c) l ∧ e = .returned (.agg #[.int .i64 h.house, .int .i64 h.gen, .int .i64 h.life, .int .i64 h.seq, .int .i64 h.next, .int .i64 h.clock, .int .i64 h.sb, .int .i64 h.sn, .slice A l.length c]) := by
  have hr' := hr
  obtain ⟨A, c, rfl, hc, -⟩ := hr'
  have HR := Lib.hid hr
  have HN := Lib.hid hn
  clear hr hn
  have HB0 : Hid (Below w.heap.size w ((w.alloc (.cells #[.int .i64 h.house, .int .i64 h.gen, .int .i64 h.life, .int .i64 h.seq, .int .i64 h.next, .int .i64 h.clock, .int .i64 h.sb, .int .i64 h.sn, .slice A l.length c] 24)).alloc (.cells #[.int .i64 0, .int .i64 0, .int .i64 0, .int .i64 0, .int .i64 0, .int .i64 0, .int .i64 0, .int .i64 0, .slice none 0 0] 24))) := ((Below.refl _ _).alloc (Nat.le_refl _) _).alloc (by simp) _
  have HX0 := Lib.hid (heap_first w (.cells #[.int .i64 h.house, .int .i64 h.gen, .int .i64 h.life, .int .i64 h.seq, .int .i64 h.next, .int .i64 h.clock, .int .i64 h.sb, .int .i64 h.sn, .slice A l.length c] 24) (.cells #[.int .i64 0, .int .i64 0, .int .i64 0, .int .i64 0, .int .i64 0, .int .i64 0, .int .i64 0, .int .i64 0, .slice none 0 0] 24))
  have HY0 := Lib.hid (heap_next w (.cells #[.int .i64 h.house, .int .i64 h.gen, .int .i64 h.life, .int .i64 h.seq, .int .i64 h.next, .int .i64 h.clock, .int .i64 h.sb, .int .i64 h.sn, .slice A l.length c] 24) (.cells #[.int .i64 0, .int .i64 0, .int .i64 0, .int .i64 0, .int .i64 0, .int .i64 0, .int .i64 0, .int .i64 0, .slice none 0 0] 24))
  go_enter Try.func28, Try.ntmps28
  go_wp2_with (at_builtin; refine EE.app_all (w0 := ((w.alloc (.cells #[.int .i64 h.house, .int .i64 h.gen, .int .i64 h.life, .int .i64 h.seq, .int .i64 h.next, .int .i64 h.clock, .int .i64 h.sb, .int .i64 h.sn, .slice A l.length c] 24)).alloc (.cells #[.int .i64 0, .int .i64 0, .int .i64 0, .int .i64 0, .int .i64 0, .int .i64 0, .int .i64 0, .int .i64 0, .slice none 0 0] 24))) rfl _ _ rfl (w.heap.size + 2) (.slice none 0 0) _ [] l rfl (El.Own.nil _ _) rfl (HR.out.below HB0.out) HN.out ?cb ?cm ?cz (Below.refl _ _) ?_; (case cb => simp [EE]; omega); (case cm => simp; omega); (case cz => simp); intro v' w1 ho hb hg; obtain ⟨A2, cc2, rfl, -⟩ := ho.reads; have hx1 := (hg.block _ (by simp; omega) (by simp [Value.ownBlock])).trans HX0.out; have hy1 := (hg.block _ (by simp) (by simp [Value.ownBlock])).trans HY0.out; have c0 := cell_of_row _ _ 0 _ _ _ hx1; have d0 := cell_of_row _ _ 0 _ _ _ hy1; have e0 := free_of_row hy1 0; have c1 := cell_of_row _ _ 1 _ _ _ hx1; have d1 := cell_of_row _ _ 1 _ _ _ hy1; have e1 := free_of_row hy1 1; have c2 := cell_of_row _ _ 2 _ _ _ hx1; have d2 := cell_of_row _ _ 2 _ _ _ hy1; have e2 := free_of_row hy1 2; have c3 := cell_of_row _ _ 3 _ _ _ hx1; have d3 := cell_of_row _ _ 3 _ _ _ hy1; have e3 := free_of_row hy1 3; have c4 := cell_of_row _ _ 4 _ _ _ hx1; have d4 := cell_of_row _ _ 4 _ _ _ hy1; have e4 := free_of_row hy1 4; have c5 := cell_of_row _ _ 5 _ _ _ hx1; have d5 := cell_of_row _ _ 5 _ _ _ hy1; have e5 := free_of_row hy1 5; have c6 := cell_of_row _ _ 6 _ _ _ hx1; have d6 := cell_of_row _ _ 6 _ _ _ hy1; have e6 := free_of_row hy1 6; have c7 := cell_of_row _ _ 7 _ _ _ hx1; have d7 := cell_of_row _ _ 7 _ _ _ hy1; have e7 := free_of_row hy1 7; have c8 := cell_of_row _ _ 8 _ _ _ hx1; have d8 := cell_of_row _ _ 8 _ _ _ hy1; have e8 := free_of_row hy1 8; have f8 := free_of_row hx1 8; have HX1 := Lib.hid hx1; have HY1 := Lib.hid hy1; clear hx1 hy1; have HO := Lib.hid ho; have HBG := Lib.hid hg; clear ho hb hg)
  have hst0 : ResSt w _ _ _ _ := ResSt.set0 ⟨(HB0.out.grown HBG.out (by simp; omega) (fun k e => by simp [Value.ownBlock] at e)), Nat.le_trans (by simp) HBG.out.size, HO.out, HY1.out⟩ 8 (.slice A2 l.length cc2)
  have hst9 := (((((((((hst0.set 0 (.int .i64 h.house)).set 1 (.int .i64 h.gen)).set 2 (.int .i64 h.life)).set 3 (.int .i64 h.seq)).set 4 (.int .i64 h.next)).set 5 (.int .i64 h.clock)).set 6 (.int .i64 h.sb)).set 7 (.int .i64 h.sn)).set 8 (.slice A2 l.length cc2)).at' (C' := #[.int .i64 h.house, .int .i64 h.gen, .int .i64 h.life, .int .i64 h.seq, .int .i64 h.next, .int .i64 h.clock, .int .i64 h.sb, .int .i64 h.sn, .slice A2 l.length cc2]) (by simp only [List.setIfInBounds_toArray, List.set_cons_zero, List.set_cons_succ])
  clear hst0
  refine (fun (hk : ∀ W, ResSt w W #[.int .i64 h.house, .int .i64 h.gen, .int .i64 h.life, .int .i64 h.seq, .int .i64 h.next, .int .i64 h.clock, .int .i64 h.sb, .int .i64 h.sn, .slice A2 l.length cc2] (.slice A2 l.length cc2) l → bodyPost Try.prog Try.f28 _ Exit.ret _ W) => hk _ hst9) ?_
  clear hst9
  intro W hst
  have HW := Lib.hid hst
  have g0 := hst.cell 0
  have g1 := hst.cell 1
  have g2 := hst.cell 2
  have g3 := hst.cell 3
  have g4 := hst.cell 4
  have g5 := hst.cell 5
  have g6 := hst.cell 6
  have g7 := hst.cell 7
  have g8 := hst.cell 8
  clear hst
  refine bodyPost_ret (v := .agg #[.int .i64 h.house, .int .i64 h.gen, .int .i64 h.life, .int .i64 h.seq, .int .i64 h.next, .int .i64 h.clock, .int .i64 h.sb, .int .i64 h.sn, .slice A2 l.length cc2]) (by simp [results, Try.results28, go_sem, g0, g1, g2, g3, g4, g5, g6, g7, g8]) rfl ⟨HW.out.1, A2, cc2, HW.out.2.2.1.mono (by omega), rfl⟩
end Go.Proofs.Ytjoplgdcpihmaaa
