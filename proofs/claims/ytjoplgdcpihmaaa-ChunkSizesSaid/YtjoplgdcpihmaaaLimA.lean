/- Bounds by a number (Limit). -/
import Derived.Test.YtjoplgdcpihmaaaPlain6
import Derived.Test.YtjoplgdcpihmaaaFr
import Derived.Deep.RegionHeld3
import Derived.Deep.RegionLaw
import Derived.Deep.RegionWith
namespace Go.Proofs.Ytjoplgdcpihmaaa
open Go.RowKit
def limV (x : Lim) : Value := .agg #[.int .i64 x.sg, .int .i64 x.hb, .int .i64 x.sb, .int .i64 x.hn, .int .i64 x.sn, .int .i64 x.gr, .int .i64 x.bu]
section
set_option maxRecDepth 100000 in
set_option maxHeartbeats 4000000 in
theorem limit_any (v : Int) (w : World) (b0 : -9223372036854775808 ≤ v) (b1 : v ≤ 9223372036854775807) :
    Calls Try.prog 52 #[.int .i64 v] w fun e w' => e = .returned (limV (limOf v)) ∧ Below w.heap.size w w' := by
  have hk := placeOf_bd v 1048576 (by decide)
  have PV := Lib.hid (place_any v 1048576)
  unfold limOf
  generalize placeOf v 1048576 = k at *
  go_enter Try.func52, Try.ntmps52
  go_wp2_with fail
  refine (PV.out _ b0 b1 (by decide) (by decide)).mono ?_
  rintro e w1 ⟨rfl, rfl⟩
  have hHN : Hid (1 ≤ 4 + k / 160 % 20) := by unfold Hid; omega
  go_upto_region 3 with fail
  have HF := Lib.hid (Fr.two w #[.int .i64 0, .int .i64 0, .int .i64 0, .int .i64 0, .int .i64 0, .int .i64 0, .int .i64 0] #[.int .i64 (8 + k % 4), .int .i64 (6 + k / 4 % 40), .int .i64 0, .int .i64 (4 + k / 160 % 20), .int .i64 0, .int .i64 (k / 3200 % 8), .int .i64 (k / 25600 % 30)] 48 48)
  generalize (w.alloc (.cells #[.int .i64 0, .int .i64 0, .int .i64 0, .int .i64 0, .int .i64 0, .int .i64 0, .int .i64 0] 48)).alloc (.cells #[.int .i64 (8 + k % 4), .int .i64 (6 + k / 4 % 40), .int .i64 0, .int .i64 (4 + k / 160 % 20), .int .i64 0, .int .i64 (k / 3200 % 8), .int .i64 (k / 25600 % 30)] 48) = W at *
  have e1 : W.cell? ⟨w.heap.size + 1, 1, none⟩ = some (.int .i64 (6 + k / 4 % 40)) := HF.out.cells (i := 1) rfl rfl 1
  have e3 : W.cell? ⟨w.heap.size + 1, 3, none⟩ = some (.int .i64 (4 + k / 160 % 20)) := HF.out.cells (i := 1) rfl rfl 3
  have e2 : W.cell? ⟨w.heap.size + 1, 2, none⟩ = some (.int .i64 0) := HF.out.cells (i := 1) rfl rfl 2
  have e4 : W.cell? ⟨w.heap.size + 1, 4, none⟩ = some (.int .i64 0) := HF.out.cells (i := 1) rfl rfl 4
  have f2 := HF.out.frees (i := 1) (b := w.heap.size + 1) rfl rfl 2
  have f4 := HF.out.frees (i := 1) (b := w.heap.size + 1) rfl rfl 4
  have d1 : k / 768000 % 3 ≤ 2 := by omega
  have d0 : 0 ≤ k / 768000 % 3 := by omega
  have d2 : 0 ≤ k / 3 % (4 + k / 160 % 20) := Int.emod_nonneg _ (by have := hHN.out; omega)
  have d3 : k / 3 % (4 + k / 160 % 20) < 4 + k / 160 % 20 := Int.emod_lt_of_pos _ (by have := hHN.out; omega)
  have t1 : k.tdiv 768000 = k / 768000 := Int.tdiv_eq_ediv_of_nonneg hk.1
  have t2 : k.tdiv 3 = k / 3 := Int.tdiv_eq_ediv_of_nonneg hk.1
  have t3 : (k / 768000).tmod 3 = k / 768000 % 3 := Int.tmod_eq_emod_of_nonneg (by omega)
  have t4 : (k / 3).tmod (4 + k / 160 % 20) = k / 3 % (4 + k / 160 % 20) := Int.tmod_eq_emod_of_nonneg (by omega)
  have t5 : 4 + k / 160 % 20 ≠ 0 := by omega
  go_region
  clear t1 t2 t3 t4 t5 d0 d1 d2 d3 e1 e2 e3 e4 f2 f4
  go_upto_region 4 with fail
  have HF2 := Lib.hid ((((HF.out.set (i := 1) (b := w.heap.size + 1) rfl rfl 2 (.int .i64 (6 + k / 4 % 40 - k / 768000 % 3))).set (i := 1) (b := w.heap.size + 1) rfl rfl 4 (.int .i64 (1 + k / 3 % (4 + k / 160 % 20)))).drew))
  generalize ((W.setCell ⟨w.heap.size + 1, 2, none⟩ (.int .i64 (6 + k / 4 % 40 - k / 768000 % 3))).setCell ⟨w.heap.size + 1, 4, none⟩ (.int .i64 (1 + k / 3 % (4 + k / 160 % 20)))).drew = W2 at *
  clear HF
  have e1 : ∀ j : Nat, W2.cell? ⟨w.heap.size + 1, j, none⟩ = (#[.int .i64 (8 + k % 4), .int .i64 (6 + k / 4 % 40), .int .i64 (6 + k / 4 % 40 - k / 768000 % 3), .int .i64 (4 + k / 160 % 20), .int .i64 (1 + k / 3 % (4 + k / 160 % 20)), .int .i64 (k / 3200 % 8), .int .i64 (k / 25600 % 30)] : Array Value)[j]? := fun j => HF2.out.cells (i := 1) rfl rfl j
  have e0 : ∀ j : Nat, W2.cell? ⟨w.heap.size, j, none⟩ = _ := HF2.out.cells (i := 0) rfl rfl
  have f0 := HF2.out.frees (i := 0) (b := w.heap.size) rfl rfl
  go_wp2_with fail
  have HF3 := Lib.hid (((((((HF2.out.set (i := 0) (b := w.heap.size) rfl rfl 0 (.int .i64 (8 + k % 4))).set (i := 0) (b := w.heap.size) rfl rfl 1 (.int .i64 (6 + k / 4 % 40))).set (i := 0) (b := w.heap.size) rfl rfl 2 (.int .i64 (6 + k / 4 % 40 - k / 768000 % 3))).set (i := 0) (b := w.heap.size) rfl rfl 3 (.int .i64 (4 + k / 160 % 20))).set (i := 0) (b := w.heap.size) rfl rfl 4 (.int .i64 (1 + k / 3 % (4 + k / 160 % 20)))).set (i := 0) (b := w.heap.size) rfl rfl 5 (.int .i64 (k / 3200 % 8))).set (i := 0) (b := w.heap.size) rfl rfl 6 (.int .i64 (k / 25600 % 30)))
  generalize (((((((W2.setCell ⟨w.heap.size, 0, none⟩ (.int .i64 (8 + k % 4))).setCell ⟨w.heap.size, 1, none⟩ (.int .i64 (6 + k / 4 % 40))).setCell ⟨w.heap.size, 2, none⟩ (.int .i64 (6 + k / 4 % 40 - k / 768000 % 3))).setCell ⟨w.heap.size, 3, none⟩ (.int .i64 (4 + k / 160 % 20))).setCell ⟨w.heap.size, 4, none⟩ (.int .i64 (1 + k / 3 % (4 + k / 160 % 20)))).setCell ⟨w.heap.size, 5, none⟩ (.int .i64 (k / 3200 % 8))).setCell ⟨w.heap.size, 6, none⟩ (.int .i64 (k / 25600 % 30))) = W3 at *
  have g0 : ∀ j : Nat, W3.cell? ⟨w.heap.size, j, none⟩ = (#[.int .i64 (8 + k % 4), .int .i64 (6 + k / 4 % 40), .int .i64 (6 + k / 4 % 40 - k / 768000 % 3), .int .i64 (4 + k / 160 % 20), .int .i64 (1 + k / 3 % (4 + k / 160 % 20)), .int .i64 (k / 3200 % 8), .int .i64 (k / 25600 % 30)] : Array Value)[j]? := fun j => by
    have := HF3.out.cells (i := 0) (b := w.heap.size) rfl rfl j
    simpa only [List.setIfInBounds_toArray, List.set_cons_zero, List.set_cons_succ] using this
  clear e0 e1 f0 HF2
  refine bodyPost_ret (v := .agg #[.int .i64 (8 + k % 4), .int .i64 (6 + k / 4 % 40), .int .i64 (6 + k / 4 % 40 - k / 768000 % 3), .int .i64 (4 + k / 160 % 20), .int .i64 (1 + k / 3 % (4 + k / 160 % 20)), .int .i64 (k / 3200 % 8), .int .i64 (k / 25600 % 30)]) (by simp [results, Try.results52, go_sem, g0]) rfl ⟨rfl, HF3.out.bel⟩
end
end Go.Proofs.Ytjoplgdcpihmaaa
