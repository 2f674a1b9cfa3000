/- A head's bytes under way: the writer. -/
import Derived.Test.YtjoplgdcpihmaaaHeadB
import Derived.Deep.RegionWith
import Derived.OneCell
namespace Go.Proofs.Ytjoplgdcpihmaaa
open Go.RowKit

theorem bcell {W w1 : World} (hb : Below W.heap.size W w1) : (∀ b o, b < W.heap.size → w1.cell? ⟨b, o, none⟩ = W.cell? ⟨b, o, none⟩) ∧ (∀ b o, b < W.heap.size → w1.frozen? ⟨b, o, none⟩ = W.frozen? ⟨b, o, none⟩) :=
  ⟨fun b o h => hb.cell (p := ⟨b, o, none⟩) h, fun b o h => hb.frozen (p := ⟨b, o, none⟩) h⟩
theorem below_of_drew {B : Nat} {w w1 : World} (h : Below B w.drew w1) : Below B w w1 := ⟨h.os, h.tape, h.output, h.size, h.block⟩
theorem grown_set {w w1 : World} (hb : Below w.heap.size w w1) (g : Nat) (u : Value) : w.grownBy (w1.setCell ⟨g, 0, none⟩ u) (some g) :=
  ⟨hb.os, hb.tape, hb.output, by simpa [World.setCell] using hb.size, fun k hk hne => by
    rw [Below.heap_setCell _ _ _ _ (fun e => hne (by rw [e]))]; exact hb.block k hk⟩

section
attribute [local go_sem] bs_append bs_size
theorem putB_length (v n : Int) : (putB v n).length = (min n 7).toNat := leB_length _ _
set_option maxRecDepth 100000 in
set_option maxHeartbeats 1000000 in
theorem put_any (g : Nat) (s : List UInt8) (v n : Int) (w : World) (hg : w.heap[g]? = some (.cells #[.string (bs s)] 168 (0, 0))) (hs : s.length ≤ 140737488351232) :
    Calls Try.prog 121 #[.pointer (some ⟨g, 0, none⟩), .int .i64 v, .int .i64 n] w fun e w' => e = .returned (.tuple #[]) ∧ w.grownBy w' (some g) ∧ w'.heap[g]? = some (.cells #[.string (bs (s ++ putB v n))] 168 (0, 0)) := by
  have c0 := cell_of_one hg
  have f0 := free_of_one hg
  have hlt := lt_of_block hg
  have HG := Lib.hid hg
  clear hg
  have hp : (putB v n).length ≤ 7 := by rw [putB_length]; omega
  go_enter Try.func121, Try.ntmps121
  go_wp2
  go_region_with (go_at_call 88; refine (binPut_any v n _).mono ?_; rintro e w1 ⟨rfl, hb⟩; have hc0 : w1.cell? ⟨g, 0, none⟩ = some (.string (bs s)) := (hb.cell (p := ⟨g, 0, none⟩) hlt).trans c0; have hf0 : w1.frozen? ⟨g, 0, none⟩ = false := (hb.frozen (p := ⟨g, 0, none⟩) hlt).trans f0; have HB := Lib.hid hb; clear hb)
  all_goals
    go_end0
    have hb : Below w.heap.size w w1 := below_of_drew HB.out
    have hg1 : w1.heap[g]? = some (.cells #[.string (bs s)] 168 (0, 0)) := (hb.block g hlt).trans HG.out
    exact ⟨rfl, grown_set hb g _, one_setCell hg1⟩
end
end Go.Proofs.Ytjoplgdcpihmaaa
