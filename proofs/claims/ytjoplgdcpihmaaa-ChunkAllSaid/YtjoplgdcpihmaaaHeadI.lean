/- A head's bytes under way: the reader. -/
import Derived.Test.YtjoplgdcpihmaaaHeadD
import Derived.Deep.RegionHeld3
import Derived.Deep.DrawnRows
namespace Go.Proofs.Ytjoplgdcpihmaaa
open Go.RowKit
attribute [local go_sem ↓] Go.wp_at_zero Go.wp_at_succ

theorem grown_set2 {w w1 : World} (hb : Below w.heap.size w w1) (g o : Nat) (u : Value) : w.grownBy (w1.setCell ⟨g, o, none⟩ u) (some g) :=
  ⟨hb.os, hb.tape, hb.output, by simpa [World.setCell] using hb.size, fun k hk hne => by
    rw [Below.heap_setCell _ _ _ _ (fun e => hne (by rw [e]))]; exact hb.block k hk⟩
theorem heap_set {w : World} {g : Nat} {cs : Array Value} {t : TypeId} (h : w.heap[g]? = some (.cells cs t (0, 0))) (o : Nat) (u : Value) : (w.setCell ⟨g, o, none⟩ u).heap[g]? = some (.cells (cs.setIfInBounds o u) t (0, 0)) := by
  simp [World.setCell, Array.getElem?_modify, h]
theorem free_of_row {w : World} {g : Nat} {cs : Array Value} {t : TypeId} (h : w.heap[g]? = some (.cells cs t (0, 0))) (o : Nat) : w.frozen? ⟨g, o, none⟩ = false := by simp [World.frozen?, h]

section
attribute [local go_sem] bs_size
set_option maxRecDepth 100000 in
set_option maxHeartbeats 1000000 in
theorem rget_any (g : Nat) (s : List UInt8) (i n : Int) (w : World) (hg : w.heap[g]? = some (.cells #[.string (bs s), .int .i64 i] 124 (0, 0))) (hs : s.length ≤ 140737488351232) (hi : 0 ≤ i) (hi1 : i ≤ 100000) (hn : 0 ≤ n) (hn1 : n ≤ 100000) :
    Calls Try.prog 91 #[.pointer (some ⟨g, 0, none⟩), .int .i64 n] w fun e w' => e = .returned (.int .i64 ((getB s i n).getD 0)) ∧ w.grownBy w' (some g) ∧ w'.heap[g]? = some (.cells #[.string (bs s), .int .i64 (i + n)] 124 (0, 0)) := by
  have c0 := cell_of_row _ _ 0 _ _ _ hg
  have c1 := cell_of_row _ _ 1 _ _ _ hg
  have f1 := free_of_row hg 1
  have hlt := lt_of_block hg
  have HG := Lib.hid hg
  have HB := Lib.hid (Below.refl w.heap.size w)
  clear hg
  go_enter Try.func91, Try.ntmps91
  go_wp2_with fail
  go_region_held3 (fun w' => w'.cell? ⟨g, 0, none⟩ = some (.string (bs s)) ∧ w'.cell? ⟨g, 1, none⟩ = some (.int .i64 i)) (go_keep)
    ((go_at_call 103; refine (binGet_any s i n _ hs).mono ?_; rintro e w1 ⟨rfl, hb⟩; have hb1 := HB.out.trans (by first | exact hb.mono HB.out.size | exact (below_of_drew hb).mono HB.out.size); have hx1 := (hb.block _ hlt).trans HG.out; clear HG HB c0 c1 f1; have HG := Lib.hid hx1; have HB := Lib.hid hb1; have c0 := cell_of_row _ _ 0 _ _ _ hx1; have c1 := cell_of_row _ _ 1 _ _ _ hx1; have f1 := free_of_row hx1 1; clear hb hb1 hx1))
  go_wp2
  go_ret
  refine ⟨rfl, grown_set2 HB.out g 1 _, ?_⟩
  rw [heap_set HG.out]; rfl
end
end Go.Proofs.Ytjoplgdcpihmaaa
