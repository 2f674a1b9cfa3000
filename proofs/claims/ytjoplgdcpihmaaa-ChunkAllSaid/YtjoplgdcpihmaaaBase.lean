/- Words and small lemmas that all texts of this seat share: 32-bit words as BitVec 32, bytes, strings as lists of bytes, numbers as bytes. -/
import Derived.Test.YtjoplgdcpihmaaaProg
import Derived.WalkKit
import Derived.WalkSpells
import Derived.WalkLawsBesides
import Derived.Lib.Hide
import Derived.Lib.ConvBytes
import Derived.Deep.OwnRows
import Derived.Laws.MakeOwn
import Derived.Deep.QuietTactic
import Derived.BigQuiet
import Derived.KernelRfl
namespace Go.Proofs.Ytjoplgdcpihmaaa
open Go.RowKit

/-! ### u32 as BitVec 32; bytes -/
def vU (x : BitVec 32) : Int := (x.toNat : Int)
def vB (c : UInt8) : Int := (c.toNat : Int)
theorem vB_bd (c : UInt8) : 0 ≤ vB c ∧ vB c ≤ 255 := by unfold vB; have := c.toNat_lt; omega
theorem vU_bd (x : BitVec 32) : 0 ≤ vU x ∧ vU x ≤ 4294967295 := by unfold vU; have := x.isLt; omega
theorem u32_nat (n : Nat) (h : n < 4294967296) : ((n : Int) % 4294967296) = n := by omega
theorem vU_mod (x : BitVec 32) : vU x % 4294967296 = vU x := by have := vU_bd x; omega
theorem vU_xor (x y : BitVec 32) : bits .xor .u32 (vU x) (vU y) = vU (x ^^^ y) := by
  have h := (x ^^^ y).isLt
  simp only [vU, bits, IntKind.wrap_u32, IntKind.bits, BitVec.ofInt_natCast, BitVec.ofNat_toNat, BitVec.setWidth_eq]
  exact u32_nat _ h
theorem vU_and (x y : BitVec 32) : bits .and .u32 (vU x) (vU y) = vU (x &&& y) := by
  have h := (x &&& y).isLt
  simp only [vU, bits, IntKind.wrap_u32, IntKind.bits, BitVec.ofInt_natCast, BitVec.ofNat_toNat, BitVec.setWidth_eq]
  exact u32_nat _ h
theorem vU_not (x : BitVec 32) : bits .xor .u32 IntKind.u32.max (vU x) = vU (~~~x) := by
  have e : (IntKind.u32.max : Int) = vU (BitVec.allOnes 32) := by decide
  rw [e, vU_xor]; congr 1
theorem vU_one (x : BitVec 32) : bits .and .u32 (vU x) 1 = vU (x &&& 1#32) := vU_and x 1#32
theorem vU_poly (x : BitVec 32) : bits .xor .u32 (vU x) 3988292384 = vU (x ^^^ 0xEDB88320#32) := vU_xor x 0xEDB88320#32
theorem vU_mul (x : BitVec 32) : (3988292384 * vU x) % 4294967296 = vU (0xEDB88320#32 * x) := by
  unfold vU; rw [BitVec.toNat_mul]; simp
theorem vU_shr (x : BitVec 32) : vU x / (2 : Int) = vU (x >>> (1 : Nat)) := by
  unfold vU; rw [BitVec.toNat_ushiftRight, Nat.shiftRight_eq_div_pow]; simp
def wide (c : UInt8) : BitVec 32 := c.toBitVec.setWidth 32
theorem vB_wide (c : UInt8) : vB c = vU (wide c) := by
  unfold vB vU wide
  rw [BitVec.toNat_setWidth]; have := c.toNat_lt; simp
theorem vB_of (c : UInt8) : (c.toNat : Int) = vB c := rfl

/-! ### strings as lists of bytes -/
def bs (l : List UInt8) : ByteArray := ⟨l.toArray⟩
def nth (l : List UInt8) (k : Nat) : UInt8 := l.getD k 0
theorem bs_size (l : List UInt8) : (bs l).size = l.length := by
  show l.toArray.size = _
  simp
theorem bs_get (l : List UInt8) (k : Nat) (h : k < (bs l).size) : (bs l)[k]'h = nth l k := by
  have hk : k < l.length := by rw [bs_size] at h; exact h
  show l.toArray[k]'_ = _
  simp only [nth, List.getD_eq_getElem?_getD, List.getElem?_eq_getElem hk, Option.getD_some]
  rfl
theorem bs_data (l : List UInt8) : (bs l).data.toList = l := rfl
theorem bs_of (s : ByteArray) : bs s.data.toList = s := rfl
theorem bs_append (a b : List UInt8) : bs a ++ bs b = bs (a ++ b) := by
  apply ByteArray.ext
  simp [bs]
theorem bs_empty : bs [] = ByteArray.empty := rfl
theorem bs_inj {a b : List UInt8} : bs a = bs b ↔ a = b := by
  constructor
  · intro h; rw [← bs_data a, ← bs_data b, h]
  · intro h; rw [h]

theorem take_snoc' (l : List UInt8) (k : Nat) (h : k < l.length) : l.take (k + 1) = l.take k ++ [nth l k] := by
  rw [List.take_succ_eq_append_getElem h]
  have e : nth l k = l[k] := by simp only [nth, List.getD_eq_getElem?_getD, List.getElem?_eq_getElem h, Option.getD_some]
  rw [e]

/-! ### []byte(s) -/
theorem bytes_below (w : World) (e : TypeId) (s : ByteArray) : Below w.heap.size w (Lib.bytesWorld w e s) := by
  refine ⟨?_, ?_, ?_, ?_, ?_⟩
  · simp [Lib.bytesWorld, World.freeze, World.alloc, World.drew, -World.alloc_eq, -World.drew_eq]
  · simp [Lib.bytesWorld, World.freeze, World.alloc, World.drew, -World.alloc_eq, -World.drew_eq]
  · simp [Lib.bytesWorld, World.freeze, World.alloc, World.drew, -World.alloc_eq, -World.drew_eq]
  · rw [Lib.bytesWorld_size]; omega
  · intro k hk; exact Lib.bytesWorld_at_old w e s k hk
theorem bytes_cell (w : World) (e : TypeId) (l : List UInt8) (j : Nat) (hj : j < l.length) : (Lib.bytesWorld w e (bs l)).cell? ⟨w.heap.size, j, none⟩ = some (.int .u8 (vB (nth l j))) :=
  Lib.bytesWorld_cell w e (bs l) j (by rw [bs_size]; exact hj)

/-! ### numbers as bytes -/
/-- The lowest byte of a number. -/
def lowB (v : Int) : UInt8 := UInt8.ofNat (v % 256).toNat
/-- The lowest n bytes of a number, the lowest first. -/
def leB : Int → Nat → List UInt8
  | _, 0 => []
  | v, n + 1 => lowB v :: leB (v / 256) n
/-- The number of bytes, the lowest first. -/
def leN : List UInt8 → Int
  | [] => 0
  | c :: l => vB c + 256 * leN l
theorem leB_length (v : Int) (n : Nat) : (leB v n).length = n := by
  induction n generalizing v with
  | zero => rfl
  | succ n ih => simp [leB, ih]
theorem vB_ofNat (n : Nat) (h : n < 256) : vB (UInt8.ofNat n) = n := by
  unfold vB; simp; omega
theorem vB_low (v : Int) : vB (lowB v) = v % 256 := by
  unfold lowB; rw [vB_ofNat _ (by omega)]; omega
theorem low_vB (v : Int) : v % 256 = vB (lowB v) := (vB_low v).symm
theorem wrapB (v : Int) : IntKind.u8.wrap v = vB (lowB v) := by rw [IntKind.wrap_u8, vB_low]
theorem vB_inj {a b : UInt8} (h : vB a = vB b) : a = b := by
  unfold vB at h
  exact UInt8.toNat_inj.1 (by omega)
theorem leN_bd (l : List UInt8) : 0 ≤ leN l ∧ leN l < 256 ^ l.length := by
  induction l with
  | nil => simp [leN]
  | cons c l ih =>
    have := vB_bd c
    simp only [leN, List.length_cons, Int.pow_succ]
    omega
theorem emod_split (v M : Int) (hp : 0 < M) : v % (256 * M) = v % 256 + 256 * (v / 256 % M) := by
  have h1 : v = 256 * (v / 256) + v % 256 := (Int.mul_ediv_add_emod v 256).symm
  have h2 : v / 256 = M * (v / 256 / M) + v / 256 % M := (Int.mul_ediv_add_emod (v / 256) M).symm
  have h3 : 0 ≤ v / 256 % M := Int.emod_nonneg _ (by omega)
  have h4 : v / 256 % M < M := Int.emod_lt_of_pos _ hp
  have h5 : v = (v % 256 + 256 * (v / 256 % M)) + (256 * M) * (v / 256 / M) := by
    rw [Int.mul_assoc]; omega
  have h6 : 0 ≤ v % 256 + 256 * (v / 256 % M) := by omega
  have h7 : v % 256 + 256 * (v / 256 % M) < 256 * M := by omega
  conv => lhs; rw [h5]
  rw [Int.add_mul_emod_self_left, Int.emod_eq_of_lt h6 h7]
theorem leN_leB (v : Int) (n : Nat) : leN (leB v n) = v % 256 ^ n := by
  induction n generalizing v with
  | zero => simp [leB, leN]
  | succ n ih =>
    simp only [leB, leN, ih, vB_low, Int.pow_succ]
    rw [Int.mul_comm (256 ^ n) 256, emod_split _ _ (Int.pow_pos (by decide))]
theorem leB_leN (l : List UInt8) : leB (leN l) l.length = l := by
  induction l with
  | nil => rfl
  | cons c l ih =>
    have hc := vB_bd c
    simp only [leN, List.length_cons, leB]
    have h1 : (vB c + 256 * leN l) % 256 = vB c := by omega
    have h2 : (vB c + 256 * leN l) / 256 = leN l := by omega
    rw [h2, ih]
    congr 1
    apply vB_inj
    rw [vB_low]; omega
theorem leB_mod (v : Int) (n m : Nat) (h : n ≤ m) : leB (v % 256 ^ m) n = leB v n := by
  induction n generalizing v m with
  | zero => rfl
  | succ n ih =>
    obtain ⟨m, rfl⟩ : ∃ k, m = k + 1 := ⟨m - 1, by omega⟩
    simp only [leB]
    have e0 : v % 256 ^ (m + 1) = v % 256 + 256 * (v / 256 % 256 ^ m) := by
      rw [Int.pow_succ, Int.mul_comm]; exact emod_split _ _ (Int.pow_pos (by decide))
    have e1 : v % 256 ^ (m + 1) % 256 = v % 256 := by omega
    have e2 : v % 256 ^ (m + 1) / 256 = v / 256 % 256 ^ m := by omega
    rw [e2, ih _ _ (by omega), show lowB (v % 256 ^ (m + 1)) = lowB v from vB_inj (by rw [vB_low, vB_low, e1])]
end Go.Proofs.Ytjoplgdcpihmaaa
