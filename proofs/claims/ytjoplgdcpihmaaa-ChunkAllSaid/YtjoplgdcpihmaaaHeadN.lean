/- Filled (a body by a number): its length. -/
import Derived.Test.YtjoplgdcpihmaaaHeadM
namespace Go.Proofs.Ytjoplgdcpihmaaa
open Go.RowKit
section
attribute [local go_sem] bc_set bs_size
set_option maxRecDepth 100000 in
set_option maxHeartbeats 400000 in
theorem filled_any (v : Int) (w : World) (h0 : 0 ≤ v) (h1 : v ≤ 100000) :
    Calls Try.prog 37 #[.int .i64 v] w fun e w' => ∃ l : List UInt8, l.length = 256 ∧ e = .returned (.string (bs l)) ∧ w' = w.alloc (.cells (bc l) 5) := by
  have hm : ∀ W : World, (Instr.makeSlice 38 (.int .i64 256) (.int .i64 256)).run Try.prog W = .ok (.slice (some ⟨W.heap.size, 0, none⟩) 256 256) (W.alloc (.cells (bc (List.replicate 256 0)) 5)) := fun W => mk38 256 (by omega) W
  go_enter Try.func37, Try.ntmps37
  go_wp2
  clear hm
  go_loopw [4] (fun i wr => ∃ k : Nat, k ≤ 256 ∧ i = .int .i64 k ∧ ∃ l : List UInt8, l.length = 256 ∧ wr = w.alloc (.cells (bc l) 5)) (fun i _ => 256 - (intOf i).toNat)
  case atStart => exact ⟨0, by omega, rfl, List.replicate 256 0, rfl, rfl⟩
  case round =>
    obtain ⟨k, hk, rfl, l, hl, rfl⟩ := hrel
    by_cases hlt : k < 256
    · have hq0 : 0 ≤ v % 5 := Int.emod_nonneg _ (by omega)
      have hq1 : v % 5 < 5 := Int.emod_lt_of_pos _ (by omega)
      have hm0 : 0 ≤ (k : Int) * (1 + v % 5) := Int.mul_nonneg (by omega) (by omega)
      have hm1 : (k : Int) * (1 + v % 5) ≤ 256 * 6 := Int.mul_le_mul (by omega) (by omega) (by omega) (by omega)
      have hv : (v + (k : Int) * (1 + v % 5)) % 256 = vB (lowB (v + (k : Int) * (1 + v % 5))) := (vB_low _).symm
      have hg := bc_get l k (by omega)
      go_wp2
      go_roundw
      case rel => exact ⟨k + 1, by omega, by go_num, l.set k (lowB (v + (k : Int) * (1 + v % 5))), by rw [List.length_set]; exact hl, rfl⟩
      case measure => simp only [intOf]; omega
    · have hcv := conv_new w l 256 hl.symm
      obtain rfl : k = 256 := by omega
      go_wp2
      go_ret
      exact ⟨l, hl, rfl, rfl⟩
end
end Go.Proofs.Ytjoplgdcpihmaaa
