/- The fields of a house as closures (table.of, table.fields). -/
import Derived.Test.YtjoplgdcpihmaaaTabE
import Derived.Laws.EntriesVeiled
namespace Go.Proofs.Ytjoplgdcpihmaaa
open Go.RowKit
theorem at0_any (b o : Nat) (w : World) : Calls Try.prog 126 #[.pointer (some ⟨b, o, none⟩)] w fun e w' => e = .returned (.pointer (some ⟨b, o, none⟩)) ∧ w = w' := by
  go_enter Try.func126, Try.ntmps126
  go_wp2
  go_ret
  exact ⟨rfl, rfl⟩
theorem cf126 (args : Array Value) (W : World) : (callFunc 126 args).run Try.prog W = .ok (.enter 126 args) W := by simp [go_sem]
theorem at1_any (b o : Nat) (w : World) : Calls Try.prog 127 #[.pointer (some ⟨b, o, none⟩)] w fun e w' => e = .returned (.pointer (some ⟨b, o + 1, none⟩)) ∧ w = w' := by
  go_enter Try.func127, Try.ntmps127
  go_wp2
  go_ret
  exact ⟨rfl, rfl⟩
theorem cf127 (args : Array Value) (W : World) : (callFunc 127 args).run Try.prog W = .ok (.enter 127 args) W := by simp [go_sem]
theorem at2_any (b o : Nat) (w : World) : Calls Try.prog 128 #[.pointer (some ⟨b, o, none⟩)] w fun e w' => e = .returned (.pointer (some ⟨b, o + 2, none⟩)) ∧ w = w' := by
  go_enter Try.func128, Try.ntmps128
  go_wp2
  go_ret
  exact ⟨rfl, rfl⟩
theorem cf128 (args : Array Value) (W : World) : (callFunc 128 args).run Try.prog W = .ok (.enter 128 args) W := by simp [go_sem]
theorem at3_any (b o : Nat) (w : World) : Calls Try.prog 129 #[.pointer (some ⟨b, o, none⟩)] w fun e w' => e = .returned (.pointer (some ⟨b, o + 3, none⟩)) ∧ w = w' := by
  go_enter Try.func129, Try.ntmps129
  go_wp2
  go_ret
  exact ⟨rfl, rfl⟩
theorem cf129 (args : Array Value) (W : World) : (callFunc 129 args).run Try.prog W = .ok (.enter 129 args) W := by simp [go_sem]
theorem at4_any (b o : Nat) (w : World) : Calls Try.prog 130 #[.pointer (some ⟨b, o, none⟩)] w fun e w' => e = .returned (.pointer (some ⟨b, o + 4, none⟩)) ∧ w = w' := by
  go_enter Try.func130, Try.ntmps130
  go_wp2
  go_ret
  exact ⟨rfl, rfl⟩
theorem cf130 (args : Array Value) (W : World) : (callFunc 130 args).run Try.prog W = .ok (.enter 130 args) W := by simp [go_sem]
theorem at5_any (b o : Nat) (w : World) : Calls Try.prog 131 #[.pointer (some ⟨b, o, none⟩)] w fun e w' => e = .returned (.pointer (some ⟨b, o + 5, none⟩)) ∧ w = w' := by
  go_enter Try.func131, Try.ntmps131
  go_wp2
  go_ret
  exact ⟨rfl, rfl⟩
theorem cf131 (args : Array Value) (W : World) : (callFunc 131 args).run Try.prog W = .ok (.enter 131 args) W := by simp [go_sem]
theorem at6_any (b o : Nat) (w : World) : Calls Try.prog 132 #[.pointer (some ⟨b, o, none⟩)] w fun e w' => e = .returned (.pointer (some ⟨b, o + 6, none⟩)) ∧ w = w' := by
  go_enter Try.func132, Try.ntmps132
  go_wp2
  go_ret
  exact ⟨rfl, rfl⟩
theorem cf132 (args : Array Value) (W : World) : (callFunc 132 args).run Try.prog W = .ok (.enter 132 args) W := by simp [go_sem]
theorem at7_any (b o : Nat) (w : World) : Calls Try.prog 133 #[.pointer (some ⟨b, o, none⟩)] w fun e w' => e = .returned (.pointer (some ⟨b, o + 7, none⟩)) ∧ w = w' := by
  go_enter Try.func133, Try.ntmps133
  go_wp2
  go_ret
  exact ⟨rfl, rfl⟩
theorem cf133 (args : Array Value) (W : World) : (callFunc 133 args).run Try.prog W = .ok (.enter 133 args) W := by simp [go_sem]
theorem at8_any (b o : Nat) (w : World) : Calls Try.prog 134 #[.pointer (some ⟨b, o, none⟩)] w fun e w' => e = .returned (.pointer (some ⟨b, o + 8, none⟩)) ∧ w = w' := by
  go_enter Try.func134, Try.ntmps134
  go_wp2
  go_ret
  exact ⟨rfl, rfl⟩
theorem cf134 (args : Array Value) (W : World) : (callFunc 134 args).run Try.prog W = .ok (.enter 134 args) W := by simp [go_sem]
/-- A field's getter: through the function that tells where the field stands. -/
theorem getter_any (f : FuncId) (b o off g : Nat) (x : Value) (k : IntKind) (n : Int) (hx : x = .int k n) (w : World) (hcf : ∀ (args : Array Value) (W : World), (callFunc f args).run Try.prog W = .ok (.enter f args) W)
    (hat : ∀ W, Calls Try.prog f #[.pointer (some ⟨b, o, none⟩)] W fun e w' => e = .returned (.pointer (some ⟨b, off, none⟩)) ∧ W = w')
    (hg : w.cell? ⟨g, 0, none⟩ = some (.func (.func f) #[] #[])) (hc : w.cell? ⟨b, off, none⟩ = some x) :
    Calls Try.prog 144 #[.pointer (some ⟨b, o, none⟩), .pointer (some ⟨g, 0, none⟩)] w fun e w' => e = .returned x ∧ w = w' := by
  have HA := Lib.hid hat
  subst hx
  clear hat
  go_enter Try.func144, Try.ntmps144
  go_wp2_with fail
  refine (HA.out _).mono ?_
  rintro e w1 ⟨rfl, rfl⟩
  go_wp2
  go_ret
  exact ⟨rfl, rfl⟩
/-- A field's setter. -/
theorem setter_any (f : FuncId) (b o off g : Nat) (y : Value) (k : IntKind) (n : Int) (w : World) (hcf : ∀ (args : Array Value) (W : World), (callFunc f args).run Try.prog W = .ok (.enter f args) W)
    (hat : ∀ W, Calls Try.prog f #[.pointer (some ⟨b, o, none⟩)] W fun e w' => e = .returned (.pointer (some ⟨b, off, none⟩)) ∧ W = w')
    (hg : w.cell? ⟨g, 0, none⟩ = some (.func (.func f) #[] #[])) (hc : w.cell? ⟨b, off, none⟩ = some y) (hf : w.frozen? ⟨b, off, none⟩ = false) :
    Calls Try.prog 145 #[.pointer (some ⟨b, o, none⟩), .int k n, .pointer (some ⟨g, 0, none⟩)] w fun e w' => e = .returned (.tuple #[]) ∧ w' = w.setCell ⟨b, off, none⟩ (.int k n) := by
  have HA := Lib.hid hat
  clear hat
  go_enter Try.func145, Try.ntmps145
  go_wp2_with fail
  refine (HA.out _).mono ?_
  rintro e w1 ⟨rfl, rfl⟩
  go_wp2
  go_end0
  exact ⟨rfl, rfl⟩
theorem lenGet_any (b o : Nat) (A : Option Addr) (n c : Nat) (w : World) (hc : w.cell? ⟨b, o + 9, none⟩ = some (.slice A n c)) :
    Calls Try.prog 135 #[.pointer (some ⟨b, o, none⟩)] w fun e w' => e = .returned (.int .i64 n) ∧ w = w' := by
  go_enter Try.func135, Try.ntmps135
  go_wp2
  go_ret
  exact ⟨rfl, rfl⟩
def getV (g : Nat) : Value := .func (.func 144) #[] #[.pointer (some ⟨g, 0, none⟩)]
def setV (g : Nat) : Value := .func (.func 145) #[] #[.pointer (some ⟨g, 0, none⟩)]
set_option maxRecDepth 100000 in
set_option maxHeartbeats 1000000 in
theorem of_any (n : Int) (f : FuncId) (w : World) :
    Calls Try.prog 125 #[.int .i64 n, .func (.func f) #[] #[]] w fun e w' => e = .returned (.agg #[.int .i64 n, getV w.heap.size, setV w.heap.size]) ∧ Below w.heap.size w w' ∧ w'.heap[w.heap.size]? = some (.cells #[.func (.func f) #[] #[]] 174 (0, 0)) := by
  have HF := Lib.hid (Fr.two w #[.func (.func f) #[] #[]] #[.int .i64 n, getV w.heap.size, setV w.heap.size] 174 134)
  go_enter Try.func125, Try.ntmps125
  go_wp2
  refine bodyPost_ret (v := .agg #[.int .i64 n, getV w.heap.size, setV w.heap.size]) (by simp [results, Try.results125, go_sem, getV, setV]) rfl ⟨rfl, HF.out.bel, HF.out.block (i := 0) rfl rfl⟩
/-- The fields' cells; g: where each one's function stands. -/
def fldCells (g : Nat → Nat) : Array Value := #[.int .i64 1, getV (g 0), setV (g 0), .int .i64 2, getV (g 1), setV (g 1), .int .i64 1, getV (g 2), setV (g 2), .int .i64 3, getV (g 3), setV (g 3), .int .i64 3, getV (g 4), setV (g 4), .int .i64 1, getV (g 5), setV (g 5), .int .i64 1, getV (g 6), setV (g 6), .int .i64 6, getV (g 7), setV (g 7), .int .i64 2, getV (g 8), setV (g 8), .int .i64 1, .func (.func 135) #[] #[], .func (.func 136) #[] #[]]
def FldSt (W : World) (b : Nat) (g : Nat → Nat) : Prop := W.heap[b]? = some (.cells (fldCells g) 134 (0, 0)) ∧ ∀ i, i < 9 → W.heap[g i]? = some (.cells #[.func (.func (126 + i)) #[] #[]] 174 (0, 0))
theorem FldSt.below {W W' : World} {b : Nat} {g : Nat → Nat} (h : FldSt W b g) (hb : Below W.heap.size W W') : FldSt W' b g :=
  ⟨(hb.block _ (lt_of_block h.1)).trans h.1, fun i hi => (hb.block _ (lt_of_block (h.2 i hi))).trans (h.2 i hi)⟩
set_option maxRecDepth 100000 in
set_option maxHeartbeats 2000000 in
theorem fields_any (w0 : World) : Calls Try.prog 101 #[] w0 fun e w' => Below w0.heap.size w0 w' ∧ ∃ b g, w0.heap.size ≤ b ∧ (∀ i, i < 9 → w0.heap.size ≤ g i) ∧ FldSt w' b g ∧ e = .returned (.slice (some ⟨b, 0, none⟩) 10 10) := by
  go_enter Try.func101, Try.ntmps101
  go_wp2_with fail
  refine (of_any _ 126 _).mono ?_
  rintro e w1 ⟨rfl, hb0, hg0⟩
  have B1 : Hid (Below w0.heap.size w0 w1) := hb0
  have G0 := Lib.hid hg0
  clear hb0 hg0
  go_wp2_with fail
  refine (of_any _ 127 _).mono ?_
  rintro e w2 ⟨rfl, hb1, hg1⟩
  have B2 : Hid (Below w0.heap.size w0 w2) := B1.out.trans (hb1.mono B1.out.size)
  have G0' := Lib.hid ((hb1.block _ (lt_of_block G0.out)).trans G0.out)
  clear G0
  have G0 := G0'
  clear G0'
  have G1 := Lib.hid hg1
  clear hb1 hg1
  go_wp2_with fail
  refine (of_any _ 128 _).mono ?_
  rintro e w3 ⟨rfl, hb2, hg2⟩
  have B3 : Hid (Below w0.heap.size w0 w3) := B2.out.trans (hb2.mono B2.out.size)
  have G0' := Lib.hid ((hb2.block _ (lt_of_block G0.out)).trans G0.out)
  clear G0
  have G0 := G0'
  clear G0'
  have G1' := Lib.hid ((hb2.block _ (lt_of_block G1.out)).trans G1.out)
  clear G1
  have G1 := G1'
  clear G1'
  have G2 := Lib.hid hg2
  clear hb2 hg2
  go_wp2_with fail
  refine (of_any _ 129 _).mono ?_
  rintro e w4 ⟨rfl, hb3, hg3⟩
  have B4 : Hid (Below w0.heap.size w0 w4) := B3.out.trans (hb3.mono B3.out.size)
  have G0' := Lib.hid ((hb3.block _ (lt_of_block G0.out)).trans G0.out)
  clear G0
  have G0 := G0'
  clear G0'
  have G1' := Lib.hid ((hb3.block _ (lt_of_block G1.out)).trans G1.out)
  clear G1
  have G1 := G1'
  clear G1'
  have G2' := Lib.hid ((hb3.block _ (lt_of_block G2.out)).trans G2.out)
  clear G2
  have G2 := G2'
  clear G2'
  have G3 := Lib.hid hg3
  clear hb3 hg3
  go_wp2_with fail
  refine (of_any _ 130 _).mono ?_
  rintro e w5 ⟨rfl, hb4, hg4⟩
  have B5 : Hid (Below w0.heap.size w0 w5) := B4.out.trans (hb4.mono B4.out.size)
  have G0' := Lib.hid ((hb4.block _ (lt_of_block G0.out)).trans G0.out)
  clear G0
  have G0 := G0'
  clear G0'
  have G1' := Lib.hid ((hb4.block _ (lt_of_block G1.out)).trans G1.out)
  clear G1
  have G1 := G1'
  clear G1'
  have G2' := Lib.hid ((hb4.block _ (lt_of_block G2.out)).trans G2.out)
  clear G2
  have G2 := G2'
  clear G2'
  have G3' := Lib.hid ((hb4.block _ (lt_of_block G3.out)).trans G3.out)
  clear G3
  have G3 := G3'
  clear G3'
  have G4 := Lib.hid hg4
  clear hb4 hg4
  go_wp2_with fail
  refine (of_any _ 131 _).mono ?_
  rintro e w6 ⟨rfl, hb5, hg5⟩
  have B6 : Hid (Below w0.heap.size w0 w6) := B5.out.trans (hb5.mono B5.out.size)
  have G0' := Lib.hid ((hb5.block _ (lt_of_block G0.out)).trans G0.out)
  clear G0
  have G0 := G0'
  clear G0'
  have G1' := Lib.hid ((hb5.block _ (lt_of_block G1.out)).trans G1.out)
  clear G1
  have G1 := G1'
  clear G1'
  have G2' := Lib.hid ((hb5.block _ (lt_of_block G2.out)).trans G2.out)
  clear G2
  have G2 := G2'
  clear G2'
  have G3' := Lib.hid ((hb5.block _ (lt_of_block G3.out)).trans G3.out)
  clear G3
  have G3 := G3'
  clear G3'
  have G4' := Lib.hid ((hb5.block _ (lt_of_block G4.out)).trans G4.out)
  clear G4
  have G4 := G4'
  clear G4'
  have G5 := Lib.hid hg5
  clear hb5 hg5
  go_wp2_with fail
  refine (of_any _ 132 _).mono ?_
  rintro e w7 ⟨rfl, hb6, hg6⟩
  have B7 : Hid (Below w0.heap.size w0 w7) := B6.out.trans (hb6.mono B6.out.size)
  have G0' := Lib.hid ((hb6.block _ (lt_of_block G0.out)).trans G0.out)
  clear G0
  have G0 := G0'
  clear G0'
  have G1' := Lib.hid ((hb6.block _ (lt_of_block G1.out)).trans G1.out)
  clear G1
  have G1 := G1'
  clear G1'
  have G2' := Lib.hid ((hb6.block _ (lt_of_block G2.out)).trans G2.out)
  clear G2
  have G2 := G2'
  clear G2'
  have G3' := Lib.hid ((hb6.block _ (lt_of_block G3.out)).trans G3.out)
  clear G3
  have G3 := G3'
  clear G3'
  have G4' := Lib.hid ((hb6.block _ (lt_of_block G4.out)).trans G4.out)
  clear G4
  have G4 := G4'
  clear G4'
  have G5' := Lib.hid ((hb6.block _ (lt_of_block G5.out)).trans G5.out)
  clear G5
  have G5 := G5'
  clear G5'
  have G6 := Lib.hid hg6
  clear hb6 hg6
  go_wp2_with fail
  refine (of_any _ 133 _).mono ?_
  rintro e w8 ⟨rfl, hb7, hg7⟩
  have B8 : Hid (Below w0.heap.size w0 w8) := B7.out.trans (hb7.mono B7.out.size)
  have G0' := Lib.hid ((hb7.block _ (lt_of_block G0.out)).trans G0.out)
  clear G0
  have G0 := G0'
  clear G0'
  have G1' := Lib.hid ((hb7.block _ (lt_of_block G1.out)).trans G1.out)
  clear G1
  have G1 := G1'
  clear G1'
  have G2' := Lib.hid ((hb7.block _ (lt_of_block G2.out)).trans G2.out)
  clear G2
  have G2 := G2'
  clear G2'
  have G3' := Lib.hid ((hb7.block _ (lt_of_block G3.out)).trans G3.out)
  clear G3
  have G3 := G3'
  clear G3'
  have G4' := Lib.hid ((hb7.block _ (lt_of_block G4.out)).trans G4.out)
  clear G4
  have G4 := G4'
  clear G4'
  have G5' := Lib.hid ((hb7.block _ (lt_of_block G5.out)).trans G5.out)
  clear G5
  have G5 := G5'
  clear G5'
  have G6' := Lib.hid ((hb7.block _ (lt_of_block G6.out)).trans G6.out)
  clear G6
  have G6 := G6'
  clear G6'
  have G7 := Lib.hid hg7
  clear hb7 hg7
  go_wp2_with fail
  refine (of_any _ 134 _).mono ?_
  rintro e w9 ⟨rfl, hb8, hg8⟩
  have B9 : Hid (Below w0.heap.size w0 w9) := B8.out.trans (hb8.mono B8.out.size)
  have G0' := Lib.hid ((hb8.block _ (lt_of_block G0.out)).trans G0.out)
  clear G0
  have G0 := G0'
  clear G0'
  have G1' := Lib.hid ((hb8.block _ (lt_of_block G1.out)).trans G1.out)
  clear G1
  have G1 := G1'
  clear G1'
  have G2' := Lib.hid ((hb8.block _ (lt_of_block G2.out)).trans G2.out)
  clear G2
  have G2 := G2'
  clear G2'
  have G3' := Lib.hid ((hb8.block _ (lt_of_block G3.out)).trans G3.out)
  clear G3
  have G3 := G3'
  clear G3'
  have G4' := Lib.hid ((hb8.block _ (lt_of_block G4.out)).trans G4.out)
  clear G4
  have G4 := G4'
  clear G4'
  have G5' := Lib.hid ((hb8.block _ (lt_of_block G5.out)).trans G5.out)
  clear G5
  have G5 := G5'
  clear G5'
  have G6' := Lib.hid ((hb8.block _ (lt_of_block G6.out)).trans G6.out)
  clear G6
  have G6 := G6'
  clear G6'
  have G7' := Lib.hid ((hb8.block _ (lt_of_block G7.out)).trans G7.out)
  clear G7
  have G7 := G7'
  clear G7'
  have G8 := Lib.hid hg8
  clear hb8 hg8
  have HBL := Lib.hid (B9.out.alloc B9.out.size (.cells (fldCells (fun i => if i = 0 then w0.heap.size else if i = 1 then w1.heap.size else if i = 2 then w2.heap.size else if i = 3 then w3.heap.size else if i = 4 then w4.heap.size else if i = 5 then w5.heap.size else if i = 6 then w6.heap.size else if i = 7 then w7.heap.size else w8.heap.size)) 134))
  have HNW := Lib.hid (heap_alloc_new w9 (.cells (fldCells (fun i => if i = 0 then w0.heap.size else if i = 1 then w1.heap.size else if i = 2 then w2.heap.size else if i = 3 then w3.heap.size else if i = 4 then w4.heap.size else if i = 5 then w5.heap.size else if i = 6 then w6.heap.size else if i = 7 then w7.heap.size else w8.heap.size)) 134))
  have HOL : Hid (∀ i : Nat, i < 9 → (w9.alloc (.cells (fldCells (fun i => if i = 0 then w0.heap.size else if i = 1 then w1.heap.size else if i = 2 then w2.heap.size else if i = 3 then w3.heap.size else if i = 4 then w4.heap.size else if i = 5 then w5.heap.size else if i = 6 then w6.heap.size else if i = 7 then w7.heap.size else w8.heap.size)) 134)).heap[(fun i => if i = 0 then w0.heap.size else if i = 1 then w1.heap.size else if i = 2 then w2.heap.size else if i = 3 then w3.heap.size else if i = 4 then w4.heap.size else if i = 5 then w5.heap.size else if i = 6 then w6.heap.size else if i = 7 then w7.heap.size else w8.heap.size) i]? = some (.cells #[.func (.func (126 + i)) #[] #[]] 174 (0, 0))) := fun i hi => by
    have hi' : i = 0 ∨ i = 1 ∨ i = 2 ∨ i = 3 ∨ i = 4 ∨ i = 5 ∨ i = 6 ∨ i = 7 ∨ i = 8 := by omega
    rcases hi' with rfl | rfl | rfl | rfl | rfl | rfl | rfl | rfl | rfl
    · exact (Below.heap_alloc _ _ _ (lt_of_block G0.out)).trans G0.out
    · exact (Below.heap_alloc _ _ _ (lt_of_block G1.out)).trans G1.out
    · exact (Below.heap_alloc _ _ _ (lt_of_block G2.out)).trans G2.out
    · exact (Below.heap_alloc _ _ _ (lt_of_block G3.out)).trans G3.out
    · exact (Below.heap_alloc _ _ _ (lt_of_block G4.out)).trans G4.out
    · exact (Below.heap_alloc _ _ _ (lt_of_block G5.out)).trans G5.out
    · exact (Below.heap_alloc _ _ _ (lt_of_block G6.out)).trans G6.out
    · exact (Below.heap_alloc _ _ _ (lt_of_block G7.out)).trans G7.out
    · exact (Below.heap_alloc _ _ _ (lt_of_block G8.out)).trans G8.out
  have HGE : Hid (∀ i : Nat, i < 9 → w0.heap.size ≤ (fun i => if i = 0 then w0.heap.size else if i = 1 then w1.heap.size else if i = 2 then w2.heap.size else if i = 3 then w3.heap.size else if i = 4 then w4.heap.size else if i = 5 then w5.heap.size else if i = 6 then w6.heap.size else if i = 7 then w7.heap.size else w8.heap.size) i) := fun i hi => by
    have hi' : i = 0 ∨ i = 1 ∨ i = 2 ∨ i = 3 ∨ i = 4 ∨ i = 5 ∨ i = 6 ∨ i = 7 ∨ i = 8 := by omega
    rcases hi' with rfl | rfl | rfl | rfl | rfl | rfl | rfl | rfl | rfl
    · exact Nat.le_refl _
    · exact B1.out.size
    · exact B2.out.size
    · exact B3.out.size
    · exact B4.out.size
    · exact B5.out.size
    · exact B6.out.size
    · exact B7.out.size
    · exact B8.out.size
  go_wp2
  go_ret
  exact ⟨HBL.out, w9.heap.size, _, B9.out.size, HGE.out, ⟨HNW.out, HOL.out⟩, rfl⟩
end Go.Proofs.Ytjoplgdcpihmaaa
