/- Turned bits: in bytes, in lists of bytes, in memory. -/
import Derived.Test.YtjoplgdcpihmaaaCrc2
import Derived.Test.YtjoplgdcpihmaaaBin2
namespace Go.Proofs.Ytjoplgdcpihmaaa
open Go.RowKit
def bitB (k : Nat) : UInt8 := UInt8.ofNat (2 ^ k)
theorem u8_nat (n : Nat) (h : n < 256) : ((n : Int) % 256) = n := by omega
theorem vB_xor (x y : UInt8) : bits .xor .u8 (vB x) (vB y) = vB (x ^^^ y) := by
  have h := (x.toBitVec ^^^ y.toBitVec).isLt
  show bits .xor .u8 ((x.toBitVec.toNat : Nat) : Int) ((y.toBitVec.toNat : Nat) : Int) = (((x.toBitVec ^^^ y.toBitVec).toNat : Nat) : Int)
  simp only [bits, IntKind.wrap_u8, IntKind.bits, BitVec.ofInt_natCast, BitVec.ofNat_toNat, BitVec.setWidth_eq]
  exact u8_nat _ h
theorem bitB_vB (k : Nat) (h : k < 8) : ((2 : Int) ^ k % 256) = vB (bitB k) := by
  have hk : k = 0 ∨ k = 1 ∨ k = 2 ∨ k = 3 ∨ k = 4 ∨ k = 5 ∨ k = 6 ∨ k = 7 := by omega
  rcases hk with rfl | rfl | rfl | rfl | rfl | rfl | rfl | rfl <;> decide
theorem bitB_ne (k : Nat) (h : k < 8) : bitB k ≠ 0 := by
  have hk : k = 0 ∨ k = 1 ∨ k = 2 ∨ k = 3 ∨ k = 4 ∨ k = 5 ∨ k = 6 ∨ k = 7 := by omega
  rcases hk with rfl | rfl | rfl | rfl | rfl | rfl | rfl | rfl <;> decide
theorem flip_byte (c : UInt8) (k : Nat) (h : k < 8) : bits .xor .u8 (vB c) ((2 : Int) ^ k % 256) = vB (c ^^^ bitB k) := by rw [bitB_vB k h, vB_xor]
theorem flip_ne (c : UInt8) (k : Nat) (h : k < 8) : c ^^^ bitB k ≠ c := by
  intro e
  have h2 : c ^^^ (c ^^^ bitB k) = c ^^^ c := by rw [e]
  rw [← UInt8.xor_assoc, UInt8.xor_self, UInt8.zero_xor] at h2
  exact bitB_ne k h h2
theorem nth_set (l : List UInt8) (k : Nat) (c : UInt8) (j : Nat) (hk : k < l.length) : nth (l.set k c) j = if j = k then c else nth l j := by
  unfold nth
  rw [List.getD_eq_getElem?_getD, List.getElem?_set]
  by_cases h : j = k
  · subst h; rw [if_pos rfl, if_pos rfl, if_pos hk]; rfl
  · rw [if_neg (fun e => h e.symm), if_neg h, List.getD_eq_getElem?_getD]
theorem nth_take (l : List UInt8) (n j : Nat) (h : j < n) : nth (l.take n) j = nth l j := by
  unfold nth
  rw [List.getD_eq_getElem?_getD, List.getD_eq_getElem?_getD, List.getElem?_take, if_pos h]
theorem nth_drop (l : List UInt8) (n j : Nat) : nth (l.drop n) j = nth l (n + j) := by
  unfold nth
  rw [List.getD_eq_getElem?_getD, List.getD_eq_getElem?_getD, List.getElem?_drop]
/-- A byte's store into a row of bytes that is known. -/
theorem set_cell {W : World} {b : Nat} {T : List UInt8} (hC : ∀ j, j < T.length → W.cell? ⟨b, j, none⟩ = some (.int .u8 (vB (nth T j)))) {k : Nat} (hk : k < T.length) (c : UInt8) (j : Nat) (hj : j < T.length) :
    (W.setCell ⟨b, k, none⟩ (.int .u8 (vB c))).cell? ⟨b, j, none⟩ = some (.int .u8 (vB (nth (T.set k c) j))) := by
  rw [nth_set T k c j hk]
  by_cases h : j = k
  · subst h
    rw [if_pos rfl]
    exact World.cell?_setCell_same _ _ _ (hC j hj)
  · rw [if_neg h, World.cell?_setCell_other _ _ _ _ (fun e => h (by injection e with _ e; exact e.symm)), hC j hj]
theorem bytes_free (w : World) (e : TypeId) (l : List UInt8) (j : Nat) (hj : j < l.length) : (Lib.bytesWorld w e (bs l)).frozen? ⟨w.heap.size, j, none⟩ = false := by
  have h := Lib.bytesWorld_at_new w e (bs l)
  have hs : l.length ≤ (Lib.bytesCells w e (bs l)).size := by
    unfold Lib.bytesCells
    rw [Array.size_append, Array.size_map]
    have : (bs l).data.size = l.length := bs_size l
    omega
  unfold World.frozen?
  rw [h]
  simp only [Bool.and_eq_false_iff, decide_eq_false_iff_not]
  left; omega
end Go.Proofs.Ytjoplgdcpihmaaa
