/- Numbers as bytes: bin.Put, bin.Get and the document's own, as functions on lists of bytes. -/
import Derived.Test.YtjoplgdcpihmaaaBase
namespace Go.Proofs.Ytjoplgdcpihmaaa
open Go.RowKit

/-- Bytes as cells. -/
def bc (l : List UInt8) : Array Value := (l.map fun c => Value.int .u8 (vB c)).toArray
theorem bc_size (l : List UInt8) : (bc l).size = l.length := by simp [bc]
theorem bc_set (l : List UInt8) (k : Nat) (c : UInt8) : (bc l).setIfInBounds k (.int .u8 (vB c)) = bc (l.set k c) := by
  apply Array.ext'
  simp [bc, List.map_set]
theorem bc_get (l : List UInt8) (k : Nat) (h : k < l.length) : (bc l)[k]? = some (.int .u8 (vB (nth l k))) := by
  simp [bc, nth, h]
theorem bc_made (n : Nat) : madeCells #[.int .u8 0] n = bc (List.replicate n 0) := by
  apply Array.ext
  · simp [madeCells, bc]
  · intro i h1 h2
    simp only [madeCells, bc, Array.getElem_map, Array.getElem_range, List.getElem_toArray, List.getElem_map, List.getElem_replicate]
    simp [Nat.mod_one]
    rfl
theorem info5 : (Try.prog.info? 5).map (fun i => (i.zero, i.size, i.bytes)) = some (some (.int .u8 0), 1, 1) := by kernel_rfl
theorem mk38 (n : Nat) (hn : n ≤ 281474976710656) (w : World) : (Instr.makeSlice 38 (.int .i64 (n : Int)) (.int .i64 (n : Int))).run Try.prog w = .ok (.slice (some ⟨w.heap.size, 0, none⟩) n n) (w.alloc (.cells (bc (List.replicate n 0)) 5)) := by
  rw [run_make_row' 38 5 (.int .u8 0) 1 Try.underlying38 info5 rfl .i64 .i64 n (by omega) (by omega) w, bc_made]
theorem leB_take (v : Int) (k : Nat) : leB v (k + 1) = leB v k ++ [lowB (v / 256 ^ k)] := by
  induction k generalizing v with
  | zero => simp [leB]
  | succ k ih =>
    rw [leB, ih, leB]
    have e : v / 256 / 256 ^ k = v / 256 ^ (k + 1) := by rw [Int.pow_succ, Int.mul_comm, Int.ediv_ediv_of_nonneg (by decide)]
    rw [e]; rfl
section
attribute [local go_sem] bc_set
set_option maxRecDepth 100000 in
set_option maxHeartbeats 400000 in
theorem order_any (x : Int) (n : Nat) (w : World) (hn : n ≤ 7) :
    Calls Try.prog 122 #[.int .u64 x, .int .i64 n] w fun e w' => e = .returned (.slice (some ⟨w.heap.size, 0, none⟩) n n) ∧ w' = w.alloc (.cells (bc (leB x n)) 5) := by
  have hm := mk38 n (by omega)
  go_enter Try.func122, Try.ntmps122
  go_wp2
  clear hm
  go_loopw [6, 11] (fun _ i wr => ∃ k : Nat, k ≤ n ∧ i = .int .i64 k ∧ wr = w.alloc (.cells (bc (leB x k ++ List.replicate (n - k) 0)) 5)) (fun _ i _ => n - (intOf i).toNat)
  case atStart => exact ⟨0, by omega, rfl, by simp [leB]⟩
  case round =>
    obtain ⟨k, hk, rfl, rfl⟩ := hrel
    by_cases hlt : k < n
    · have hv : x / 2 ^ (8 * k) % 256 = vB (lowB (x / 256 ^ k)) := by
        rw [vB_low, Int.pow_mul]; rfl
      have HT := Lib.hid (leB_take x k)
      have hg := bc_get (leB x k ++ List.replicate (n - k) 0) k (by simp [leB_length]; omega)
      have HW : Hid ((leB x k ++ List.replicate (n - k) 0).set k (lowB (x / 256 ^ k)) = leB x (k + 1) ++ List.replicate (n - (k + 1)) 0) := by
        unfold Hid
        rw [leB_take, List.set_append_right _ _ (by rw [leB_length]; omega), leB_length, List.append_assoc]
        congr 1
        obtain ⟨m, hm⟩ : ∃ m, n - k = m + 1 := ⟨n - k - 1, by omega⟩
        rw [hm, Nat.sub_self, show n - (k + 1) = m by omega]; rfl
      go_wp2
      go_roundw
      case rel => exact ⟨k + 1, by omega, by go_num, by rw [HW.out]⟩
      case measure => simp [intOf]; omega
    · go_wp2
      go_ret
      obtain rfl : k = n := by omega
      simp
end

theorem order_int (x n : Int) (w : World) (h0 : 0 ≤ n) (hn : n ≤ 7) :
    Calls Try.prog 122 #[.int .u64 x, .int .i64 n] w fun e w' => e = .returned (.slice (some ⟨w.heap.size, 0, none⟩) n.toNat n.toNat) ∧ w' = w.alloc (.cells (bc (leB x n.toNat)) 5) := by
  obtain ⟨m, rfl⟩ := Int.eq_ofNat_of_zero_le h0
  rw [Int.toNat_natCast]
  exact order_any x m w (by omega)
theorem addr_add (b o j : Nat) : (⟨b, o, none⟩ : Addr).add j = ⟨b, o + j, none⟩ := by unfold Addr.add; split <;> simp_all
/-- string(b), b's cells known. -/
theorem conv_bytes (W : World) (b o c : Nat) (l : List UInt8) (hc : ∀ j, j < l.length → W.cell? ⟨b, o + j, none⟩ = some (.int .u8 (vB (nth l j)))) :
    (convert 38 9 (.slice (some ⟨b, o, none⟩) l.length c)).run Try.prog W = .ok (.string (bs l)) W := by
  refine run_convert_bytes_back W 38 9 5 ⟨b, o, none⟩ c l Try.underlying38 Try.underlying5 Try.underlying9 fun j hj => ?_
  have h := hc j hj
  have e : nth l j = l[j] := by simp only [nth, List.getD_eq_getElem?_getD, List.getElem?_eq_getElem hj, Option.getD_some]
  rw [e] at h
  rw [addr_add]; exact h
theorem conv_new (W : World) (l : List UInt8) (n : Nat) (hn : n = l.length) : (convert 38 9 (.slice (some ⟨W.heap.size, 0, none⟩) n n)).run Try.prog (W.alloc (.cells (bc l) 5)) = .ok (.string (bs l)) (W.alloc (.cells (bc l) 5)) := by
  subst hn
  refine conv_bytes _ _ _ _ l fun j hj => ?_
  rw [World.cell?_alloc_at (w := W) (bc l) 5 W.heap.size (0 + j) rfl, Nat.zero_add]
  exact bc_get l j hj
def putB (v n : Int) : List UInt8 := leB v (min n 7).toNat
theorem leB_u64 (v : Int) (n : Nat) (h : n ≤ 8) : leB (IntKind.u64.wrap v) n = leB v n := by
  have e : IntKind.u64.wrap v = v % 256 ^ 8 := by
    simp [IntKind.wrap, IntKind.bits, IntKind.signed]
  rw [e, leB_mod _ _ _ h]
set_option maxHeartbeats 400000 in
theorem binPut_any (v n : Int) (w : World) :
    Calls Try.prog 88 #[.int .i64 v, .int .i64 n] w fun e w' => e = .returned (.string (bs (putB v n))) ∧ Below w.heap.size w w' := by
  have hcv := fun m : Int => conv_new w (leB (IntKind.u64.wrap v) m.toNat) m.toNat (leB_length _ _).symm
  go_enter Try.func88, Try.ntmps88
  go_wp2_with (go_at_call 122; refine (order_int _ _ _ (by omega) (by omega)).mono ?_; rintro e w' ⟨rfl, rfl⟩)
  all_goals
    go_ret
    refine ⟨?_, (Below.refl _ _).alloc (Nat.le_refl _) _⟩
    unfold putB
    rw [leB_u64 _ _ (by omega)]
    exact congrArg (fun m => Ending.returned (.string (bs (leB v m)))) (by omega)
end Go.Proofs.Ytjoplgdcpihmaaa
