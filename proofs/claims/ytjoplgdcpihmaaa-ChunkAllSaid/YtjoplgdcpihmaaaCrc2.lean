/- Plain laws of the sums: a turned byte turns the sum; four bytes in a row that differ turn it. -/
import Derived.Test.YtjoplgdcpihmaaaCrc
namespace Go.Proofs.Ytjoplgdcpihmaaa

theorem top_shr (x : BitVec 32) : (x >>> 1).getLsbD 31 = false := by simp
theorem halves {x y : BitVec 32} (h1 : x >>> 1 = y >>> 1) (h2 : x &&& 1#32 = y &&& 1#32) : x = y := by
  have a := congrArg BitVec.toNat h1
  have b := congrArg BitVec.toNat h2
  rw [BitVec.toNat_ushiftRight, BitVec.toNat_ushiftRight, Nat.shiftRight_eq_div_pow, Nat.shiftRight_eq_div_pow] at a
  rw [BitVec.toNat_and, BitVec.toNat_and] at b
  have e : (1#32 : BitVec 32).toNat = 1 := rfl
  rw [e, Nat.and_one_is_mod, Nat.and_one_is_mod] at b
  exact BitVec.eq_of_toNat_eq (by omega)
theorem xor_right {x y z : BitVec 32} (h : x ^^^ z = y ^^^ z) : x = y := by
  have : (x ^^^ z) ^^^ z = (y ^^^ z) ^^^ z := by rw [h]
  rwa [BitVec.xor_assoc, BitVec.xor_assoc, BitVec.xor_self, BitVec.xor_zero, BitVec.xor_zero] at this
theorem xor_left {x y z : BitVec 32} (h : z ^^^ x = z ^^^ y) : x = y := by
  rw [BitVec.xor_comm z x, BitVec.xor_comm z y] at h; exact xor_right h
theorem crcBit_inj {x y : BitVec 32} (h : crcBit x = crcBit y) : x = y := by
  rcases and_one x with hx | hx <;> rcases and_one y with hy | hy
  · rw [crcBit_zero hx, crcBit_zero hy] at h
    exact halves h (hx.trans hy.symm)
  · rw [crcBit_zero hx, crcBit_one hy] at h
    have := congrArg (fun z => z.getLsbD 31) h
    simp at this
  · rw [crcBit_one hx, crcBit_zero hy] at h
    have := congrArg (fun z => z.getLsbD 31) h
    simp at this
  · rw [crcBit_one hx, crcBit_one hy] at h
    exact halves (xor_right h) (hx.trans hy.symm)
theorem crcBits_inj (n : Nat) {x y : BitVec 32} (h : crcBits n x = crcBits n y) : x = y := by
  induction n with
  | zero => exact h
  | succ n ih => exact ih (crcBit_inj h)
theorem wide_inj {c d : UInt8} (h : wide c = wide d) : c = d := by
  apply vB_inj; rw [vB_wide, vB_wide, h]
theorem crcByte_state {x y : BitVec 32} {c : UInt8} (h : crcByte x c = crcByte y c) : x = y := xor_right (crcBits_inj 8 h)
theorem crcByte_byte {x : BitVec 32} {c d : UInt8} (h : crcByte x c = crcByte x d) : c = d := wide_inj (xor_left (crcBits_inj 8 h))
theorem crcFold_state {l : List UInt8} {x y : BitVec 32} (h : crcFold x l = crcFold y l) : x = y := by
  induction l generalizing x y with
  | nil => exact h
  | cons c l ih => exact crcByte_state (ih h)
theorem crcMore_state {l : List UInt8} {x y : BitVec 32} (h : crcMore x l = crcMore y l) : x = y := by
  unfold crcMore at h
  have h2 := congrArg (fun z => ~~~z) h
  simp only [BitVec.not_not] at h2
  have h3 := congrArg (fun z => ~~~z) (crcFold_state h2)
  simpa only [BitVec.not_not] using h3
/-- One byte that differs. -/
theorem crcFold_byte {v : BitVec 32} {a b : List UInt8} {c d : UInt8} (h : crcFold v (a ++ c :: b) = crcFold v (a ++ d :: b)) : c = d := by
  rw [crcFold_append, crcFold_append] at h
  exact crcByte_byte (crcFold_state (l := b) h)
theorem crcMore_fold {v : BitVec 32} {l m : List UInt8} (h : crcMore v l = crcMore v m) : crcFold (~~~v) l = crcFold (~~~v) m := by
  unfold crcMore at h
  have h2 := congrArg (fun z => ~~~z) h
  simpa only [BitVec.not_not] using h2
theorem crcMore_byte {v : BitVec 32} {a b : List UInt8} {c d : UInt8} (h : crcMore v (a ++ c :: b) = crcMore v (a ++ d :: b)) : c = d := crcFold_byte (crcMore_fold h)
theorem set_split (l : List UInt8) (k : Nat) (c : UInt8) (h : k < l.length) : l.set k c = l.take k ++ c :: l.drop (k + 1) ∧ l = l.take k ++ nth l k :: l.drop (k + 1) := by
  have e : nth l k = l[k] := by simp only [nth, List.getD_eq_getElem?_getD, List.getElem?_eq_getElem h, Option.getD_some]
  refine ⟨by rw [List.set_eq_take_append_cons_drop, if_pos h], ?_⟩
  rw [e, ← List.drop_eq_getElem_cons h, List.take_append_drop]
theorem crcOf_set {l : List UInt8} {k : Nat} {c : UInt8} (h : k < l.length) (hc : c ≠ nth l k) : crcOf (l.set k c) ≠ crcOf l := by
  intro he
  have he := vU_inj he
  obtain ⟨h1, h2⟩ := set_split l k c h
  rw [h1] at he
  conv at he => rhs; rw [h2]
  exact hc (crcMore_byte he)

/-! ### four bytes in a row -/
theorem crcBit_xor (x y : BitVec 32) : crcBit (x ^^^ y) = crcBit x ^^^ crcBit y := by
  have hs : (x ^^^ y) >>> 1 = x >>> 1 ^^^ y >>> 1 := BitVec.ushiftRight_xor_distrib x y 1
  have ha : (x ^^^ y) &&& 1#32 = (x &&& 1#32) ^^^ (y &&& 1#32) := by
    apply BitVec.eq_of_getLsbD_eq; intro i hi; simp only [BitVec.getLsbD_and, BitVec.getLsbD_xor]
    cases (1#32 : BitVec 32).getLsbD i <;> simp
  rcases and_one x with hx | hx <;> rcases and_one y with hy | hy
  · rw [crcBit_zero hx, crcBit_zero hy, crcBit_zero (by rw [ha, hx, hy]; rfl), hs]
  · rw [crcBit_zero hx, crcBit_one hy, crcBit_one (by rw [ha, hx, hy]; rfl), hs, BitVec.xor_assoc]
  · rw [crcBit_one hx, crcBit_zero hy, crcBit_one (by rw [ha, hx, hy]; rfl), hs, BitVec.xor_assoc, BitVec.xor_assoc, BitVec.xor_comm (y >>> 1)]
  · rw [crcBit_one hx, crcBit_one hy, crcBit_zero (by rw [ha, hx, hy]; rfl), hs, BitVec.xor_assoc, ← BitVec.xor_assoc 0xEDB88320#32 (y >>> 1), BitVec.xor_comm 0xEDB88320#32 (y >>> 1), BitVec.xor_assoc, BitVec.xor_self, BitVec.xor_zero]
theorem crcBits_xor (n : Nat) (x y : BitVec 32) : crcBits n (x ^^^ y) = crcBits n x ^^^ crcBits n y := by
  induction n with
  | zero => rfl
  | succ n ih => show crcBit _ = _; rw [ih, crcBit_xor]; rfl
theorem crcBit_shl (x : BitVec 32) (h : x.toNat < 2 ^ 31) : crcBit (x <<< 1) = x := by
  have h0 : (x <<< 1) &&& 1#32 = 0#32 := by
    apply BitVec.eq_of_toNat_eq
    rw [BitVec.toNat_and, BitVec.toNat_shiftLeft, Nat.shiftLeft_eq]
    have e : (1#32 : BitVec 32).toNat = 1 := rfl
    rw [e, Nat.and_one_is_mod]
    show (x.toNat * 2 ^ 1) % 2 ^ 32 % 2 = 0
    omega
  rw [crcBit_zero h0]
  apply BitVec.eq_of_toNat_eq
  rw [BitVec.toNat_ushiftRight, Nat.shiftRight_eq_div_pow, BitVec.toNat_shiftLeft, Nat.shiftLeft_eq]
  show (x.toNat * 2 ^ 1) % 2 ^ 32 / 2 ^ 1 = x.toNat
  omega
theorem crcBits_mul (n : Nat) (m : Nat) (h : m * 2 ^ n < 2 ^ 32) : crcBits n (BitVec.ofNat 32 (m * 2 ^ n)) = BitVec.ofNat 32 m := by
  induction n generalizing m with
  | zero => simp [crcBits]
  | succ n ih =>
    have e : m * 2 ^ (n + 1) = (m * 2) * 2 ^ n := by rw [Nat.pow_succ, Nat.mul_comm (2 ^ n) 2, Nat.mul_assoc]
    have hp : 0 < 2 ^ n := Nat.pow_pos (by decide)
    have hm : m * 2 < 2 ^ 32 := Nat.lt_of_le_of_lt (Nat.le_mul_of_pos_right (m * 2) hp) (by rw [← e]; exact h)
    show crcBit (crcBits n (BitVec.ofNat 32 (m * 2 ^ (n + 1)))) = _
    rw [e, ih (m * 2) (by rw [← e]; exact h)]
    have e2 : BitVec.ofNat 32 (m * 2) = BitVec.ofNat 32 m <<< 1 := by
      apply BitVec.eq_of_toNat_eq
      rw [BitVec.toNat_shiftLeft, Nat.shiftLeft_eq, BitVec.toNat_ofNat, BitVec.toNat_ofNat]
      omega
    rw [e2, crcBit_shl _ (by rw [BitVec.toNat_ofNat]; omega)]
/-- If eight steps lead to a small word, they came from that word shifted. -/
theorem crcBits_back {x : BitVec 32} {m : Nat} (hm : m * 256 < 2 ^ 32) (h : crcBits 8 x = BitVec.ofNat 32 m) : x = BitVec.ofNat 32 (m * 256) :=
  crcBits_inj 8 (h.trans (crcBits_mul 8 m hm).symm)
theorem wide_of (c : UInt8) : wide c = BitVec.ofNat 32 c.toNat := by
  apply BitVec.eq_of_toNat_eq
  unfold wide
  rw [BitVec.toNat_setWidth, BitVec.toNat_ofNat]; rfl
theorem xor_low (a b : Nat) (hb : b < 256) : (a * 256) ^^^ b = a * 256 + b := by
  have := Nat.two_pow_add_eq_or_of_lt (i := 8) (b := b) hb a
  have h2 : (a * 256) ^^^ b = (a * 256) ||| b := by
    apply Nat.eq_of_testBit_eq; intro i
    rw [Nat.testBit_xor, Nat.testBit_or]
    have e : a * 256 = a <<< 8 := by rw [Nat.shiftLeft_eq]
    rw [e, Nat.testBit_shiftLeft]
    by_cases hi : 8 ≤ i
    · have : b.testBit i = false := Nat.testBit_lt_two_pow (Nat.lt_of_lt_of_le (m := 2 ^ 8) hb (Nat.pow_le_pow_right (n := 2) (by decide) hi))
      rw [this]; simp
    · simp [hi]
  rw [h2]
  have e : 2 ^ 8 * a = a * 256 := by rw [Nat.mul_comm]
  rw [e] at this; exact this.symm
theorem ofNat_xor (a b : Nat) : BitVec.ofNat 32 a ^^^ BitVec.ofNat 32 b = BitVec.ofNat 32 (a ^^^ b) := by
  apply BitVec.eq_of_getLsbD_eq; intro i hi
  simp [hi]
/-- The difference of two states is stepped as a state is. -/
theorem crcByte_diff (x y : BitVec 32) (c d : UInt8) : crcByte x c ^^^ crcByte y d = crcBits 8 ((x ^^^ y) ^^^ (wide c ^^^ wide d)) := by
  unfold crcByte
  rw [← crcBits_xor]
  congr 1
  rw [BitVec.xor_assoc, ← BitVec.xor_assoc (wide c) y, BitVec.xor_comm (wide c) y, BitVec.xor_assoc y, ← BitVec.xor_assoc x y]
theorem wide_xor (c d : UInt8) : wide c ^^^ wide d = BitVec.ofNat 32 (c ^^^ d).toNat := by
  rw [wide_of, wide_of, ofNat_xor]; rfl
theorem diff_zero {x y : BitVec 32} (h : x ^^^ y = 0#32) : x = y := by
  have : (x ^^^ y) ^^^ y = 0#32 ^^^ y := by rw [h]
  rwa [BitVec.xor_assoc, BitVec.xor_self, BitVec.xor_zero, BitVec.zero_xor] at this
theorem step_back {x y : BitVec 32} {c d : UInt8} {m : Nat} (hm : m < 2 ^ 24) (h : crcByte x c ^^^ crcByte y d = BitVec.ofNat 32 m) : x ^^^ y = BitVec.ofNat 32 (m * 256 + (c ^^^ d).toNat) := by
  rw [crcByte_diff, wide_xor] at h
  have := crcBits_back (by omega) h
  have h2 : ((x ^^^ y) ^^^ BitVec.ofNat 32 (c ^^^ d).toNat) ^^^ BitVec.ofNat 32 (c ^^^ d).toNat = BitVec.ofNat 32 (m * 256) ^^^ BitVec.ofNat 32 (c ^^^ d).toNat := by rw [this]
  rw [BitVec.xor_assoc, BitVec.xor_self, BitVec.xor_zero, ofNat_xor, xor_low _ _ (by have := (c ^^^ d).toNat_lt; omega)] at h2
  exact h2
theorem byte_xor_zero {c d : UInt8} (h : (c ^^^ d).toNat = 0) : c = d := by
  have h0 : c ^^^ d = 0 := UInt8.toNat_inj.1 (by rw [h]; rfl)
  have : (c ^^^ d) ^^^ d = 0 ^^^ d := by rw [h0]
  rwa [UInt8.xor_assoc, UInt8.xor_self, UInt8.xor_zero, UInt8.zero_xor] at this
theorem crcFold_four {x : BitVec 32} {c0 c1 c2 c3 d0 d1 d2 d3 : UInt8} (h : crcFold x [c0, c1, c2, c3] = crcFold x [d0, d1, d2, d3]) : c0 = d0 ∧ c1 = d1 ∧ c2 = d2 ∧ c3 = d3 := by
  simp only [crcFold, List.foldl_cons, List.foldl_nil] at h
  have b0 := (c0 ^^^ d0).toNat_lt
  have b1 := (c1 ^^^ d1).toNat_lt
  have b2 := (c2 ^^^ d2).toNat_lt
  have b3 := (c3 ^^^ d3).toNat_lt
  have e4 : crcByte (crcByte (crcByte (crcByte x c0) c1) c2) c3 ^^^ crcByte (crcByte (crcByte (crcByte x d0) d1) d2) d3 = BitVec.ofNat 32 0 := by rw [h, BitVec.xor_self]
  have e3 := step_back (by omega) e4
  have e2 := step_back (by omega) e3
  have e1 := step_back (by omega) e2
  rw [crcByte_diff, BitVec.xor_self, BitVec.zero_xor, wide_xor] at e1
  have e0 := congrArg BitVec.toNat (crcBits_back (by omega) e1)
  rw [BitVec.toNat_ofNat, BitVec.toNat_ofNat] at e0
  have z : (c0 ^^^ d0).toNat = 0 ∧ (c1 ^^^ d1).toNat = 0 ∧ (c2 ^^^ d2).toNat = 0 ∧ (c3 ^^^ d3).toNat = 0 := by omega
  exact ⟨byte_xor_zero z.1, byte_xor_zero z.2.1, byte_xor_zero z.2.2.1, byte_xor_zero z.2.2.2⟩
end Go.Proofs.Ytjoplgdcpihmaaa
