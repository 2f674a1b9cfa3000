/- The document's own numbers as bytes (beguinageref03), bin.Get. -/
import Derived.Test.YtjoplgdcpihmaaaMem
namespace Go.Proofs.Ytjoplgdcpihmaaa
open Go.RowKit

theorem ret_str {a b : List UInt8} (h : a = b) : Ending.returned (.string (bs a)) = .returned (.string (bs b)) := by rw [h]
theorem ret_int {k : IntKind} {a b : Int} (h : a = b) : Ending.returned (.int k a) = .returned (.int k b) := by rw [h]
theorem ret_bool {a b : Bool} (h : a = b) : Ending.returned (.bool a) = .returned (.bool b) := by rw [h]
theorem own_conv {W : World} {base : Nat} {v : Value} {l : List UInt8} (h : EB.Own W base v l) : (convert 38 9 v).run Try.prog W = .ok (.string (bs l)) W := by
  have h' := h
  rcases h'.2 with ⟨rfl, h0⟩ | ⟨g, cap, cur, rfl, _⟩
  · have : l = [] := List.eq_nil_of_length_eq_zero h0
    subst this
    exact run_convert_bytes_nil W 38 5 Try.underlying38 Try.underlying5 0 0 9 Try.underlying9
  · refine conv_bytes W g 0 cap l fun j hj => ?_
    have hc := EB.cells_get l j 0 l[j] (List.getElem?_eq_getElem hj) (by decide)
    simp only [EB, Nat.mul_one, Nat.add_zero] at hc
    rw [show nth l j = l[j] by simp only [nth, List.getD_eq_getElem?_getD, List.getElem?_eq_getElem hj, Option.getD_some]]
    have := World.ownsRow.cells h (g := g) rfl j _ hc
    rwa [addr_add] at this

set_option maxRecDepth 100000 in
set_option maxHeartbeats 400000 in
theorem refPut_any (v n : Int) (w : World) (hn : n ≤ 9223372036854775807) :
    Calls Try.prog 90 #[.int .i64 v, .int .i64 n] w fun e w' => e = .returned (.string (bs (putB v n))) ∧ Below w.heap.size w w' := by
  go_enter Try.func90, Try.ntmps90
  go_wp2
  go_loopw [0, 5, 6] (fun x b i wr => ∃ k : Nat, ∃ l : List UInt8, (k : Int) ≤ max 0 (min n 7) ∧ i = .int .i64 k ∧ x = .int .i64 (v / 256 ^ k) ∧ l = leB v k ∧ EB.Own wr w.heap.size b l ∧ Below w.heap.size w wr) (fun _ _ i _ => 7 - (intOf i).toNat)
  case atStart => exact ⟨0, [], by omega, rfl, by simp, rfl, El.Own.nil _ _, Below.refl _ _⟩
  case round =>
    obtain ⟨k, l, hk, rfl, rfl, hl, hown, hbel⟩ := hrel
    have HL := Lib.hid hl
    have HO := Lib.hid hown
    have HB := Lib.hid hbel
    clear hl hown hbel
    by_cases hlt : (k : Int) < n ∧ k < 7
    · obtain ⟨h1, h2⟩ := hlt
      have hv := wrapB (v / 256 ^ k)
      have hl : l.length ≤ 7 := by rw [HL.out, leB_length]; omega
      have HS : Hid (∀ x, v / 256 ^ k / 256 = x ↔ v / 256 ^ (k + 1) = x) := by
        intro x; rw [Int.pow_succ, Int.ediv_ediv_of_nonneg (Int.pow_nonneg (by decide))]
      go_wp2_with (at_builtin; refine EB.app rfl _ _ rfl w.heap.size _ l (lowB (v / 256 ^ k)) rfl HO.out rfl _ rfl ?cb ?cm HB.out.size HB.out ?_; (case cb => simp [EB]; omega); (case cm => omega); intro v' w1 ho1 hb1 _ _; have HO1 := Lib.hid ho1; have HB1 := Lib.hid hb1; clear ho1 hb1)
      go_roundw
      case rel => exact ⟨k + 1, _, by omega, by go_num, by rw [(HS.out _).2 rfl], by rw [HL.out, leB_take], HO1.out, HB1.out⟩
      case measure => simp [intOf]; omega
    · have hd : decide ((k : Int) < n) = false ∨ (decide ((k : Int) < n) = true ∧ decide ((k : Int) < 7) = false) := by
        simp only [decide_eq_false_iff_not, decide_eq_true_eq]; omega
      have hcv := own_conv HO.out
      have HF : Hid (l = putB v n) := by
        unfold Hid putB; rw [HL.out]; congr 1; omega
      clear hlt
      rcases hd with hd | ⟨hd, hd2⟩
      all_goals
        go_wp2
        go_ret
        exact ⟨ret_str HF.out, HB.out⟩

theorem or_byte (x : Int) (c : UInt8) (h0 : 0 ≤ x) (h1 : x < 281474976710656) : bits .or .i64 (x * 256) (vB c) = vB c + 256 * x := by
  have hc := vB_bd c
  rw [bits_join .i64 63 (by decide) (fun n a b => by rw [IntKind.wrap_i64]; omega) 8 (x * 256) (vB c) (by omega) (by omega) (by omega) (by omega) (by omega) (by omega)]
  omega
theorem leN_drop (l : List UInt8) (k : Nat) (h : k < l.length) : leN (l.drop k) = vB (nth l k) + 256 * leN (l.drop (k + 1)) := by
  rw [List.drop_eq_getElem_cons h]
  simp only [leN, nth, List.getD_eq_getElem?_getD, List.getElem?_eq_getElem h, Option.getD_some]
theorem leN_lt (l : List UInt8) (n : Nat) (h : l.length ≤ n) : 0 ≤ leN l ∧ leN l < 256 ^ n := by
  have := leN_bd l
  have h2 : (256 : Int) ^ l.length ≤ 256 ^ n := by
    obtain ⟨d, rfl⟩ := Nat.exists_eq_add_of_le h
    rw [Int.pow_add]
    have h1 : (0 : Int) < 256 ^ l.length := Int.pow_pos (by decide)
    have h3 : (0 : Int) < 256 ^ d := Int.pow_pos (by decide)
    have := Int.mul_le_mul_of_nonneg_left (show (1 : Int) ≤ 256 ^ d by omega) (Int.le_of_lt h1)
    omega
  omega
theorem EB_at {w : World} {v : Value} {l : List UInt8} (h : EB.Reads w v l) (i : Nat) (hi : i < l.length) : ∃ b o c, v = .slice (some ⟨b, o, none⟩) l.length c ∧ b < w.heap.size ∧ w.cell? ⟨b, o + i, none⟩ = some (.int .u8 (vB (nth l i))) := by
  obtain ⟨b, o, c, rfl, hb, hc⟩ := h.at i l[i] (List.getElem?_eq_getElem hi)
  refine ⟨b, o, c, rfl, hb, ?_⟩
  have := hc 0 _ rfl
  simp only [EB, Nat.mul_one, Nat.add_zero] at this
  rw [show nth l i = l[i] by simp only [nth, List.getD_eq_getElem?_getD, List.getElem?_eq_getElem hi, Option.getD_some]]
  exact this
set_option maxRecDepth 100000 in
set_option maxHeartbeats 400000 in
theorem number_any (v : Value) (l : List UInt8) (w : World) (hr : EB.Reads w v l) (hl : l.length ≤ 7) :
    Calls Try.prog 137 #[v] w fun e w' => e = .returned (.int .i64 (leN l)) ∧ w = w' := by
  have hr' := hr
  obtain ⟨A, c, rfl, hc, -⟩ := hr'
  have HR := Lib.hid hr
  clear hr
  go_enter Try.func137, Try.ntmps137
  go_wp2
  go_loop [3, 4] (fun x i => ∃ k : Nat, k ≤ l.length ∧ i = .int .i64 ((k : Int) - 1) ∧ x = .int .i64 (leN (l.drop k))) (fun _ i => (intOf i + 1).toNat)
  case atStart => exact ⟨l.length, by omega, rfl, by simp [leN]⟩
  case round =>
    obtain ⟨k, hk, rfl, rfl⟩ := hrel
    by_cases hlt : 1 ≤ k
    · obtain ⟨j, rfl⟩ : ∃ j, k = j + 1 := ⟨k - 1, by omega⟩
      obtain ⟨b, o, c', hv, hb, hcell⟩ := EB_at HR.out j (by omega)
      simp only [Value.slice.injEq] at hv
      obtain ⟨rfl, _, rfl⟩ := hv
      have hbd : 0 ≤ leN (l.drop (j + 1)) ∧ leN (l.drop (j + 1)) < 281474976710656 := leN_lt (l.drop (j + 1)) 6 (by rw [List.length_drop]; omega)
      have hvb := vB_bd (nth l j)
      have HD := Lib.hid (leN_drop l j (by omega))
      have hor := or_byte (leN (l.drop (j + 1))) (nth l j) hbd.1 hbd.2
      generalize leN (l.drop (j + 1)) = x at *
      go_wp2
      go_round
      case rel => exact ⟨j, by omega, rfl, by rw [HD.out]⟩
      case measure => simp only [intOf]; omega
    · go_wp2
      go_ret
      obtain rfl : k = 0 := by omega
      exact ⟨rfl, rfl⟩

theorem bs_extract (l : List UInt8) (i j : Nat) : (bs l).extract i j = bs ((l.drop i).take (j - i)) := by
  apply ByteArray.ext
  rw [ByteArray.data_extract]
  simp [bs]
theorem bytes_reads (w : World) (l : List UInt8) : EB.Reads (Lib.bytesWorld w 5 (bs l)) (.slice (some ⟨w.heap.size, 0, none⟩) l.length (grownCap w l.length 0 5)) l := by
  refine ⟨_, _, rfl, grownCap_ge _ _ _ _, fun _ => ⟨w.heap.size, 0, rfl, by rw [Lib.bytesWorld_size]; omega, fun j u hu => ?_⟩⟩
  have hj : j < l.length := by
    have := (List.getElem?_eq_some_iff.1 hu).1
    rw [EB.cells_length] at this; simpa [EB] using this
  rw [Nat.zero_add, bytes_cell w 5 l j hj, ← hu]
  have hc := EB.cells_get l j 0 l[j] (List.getElem?_eq_getElem hj) (by decide)
  simp only [EB, Nat.mul_one, Nat.add_zero] at hc
  rw [show nth l j = l[j] by simp only [nth, List.getD_eq_getElem?_getD, List.getElem?_eq_getElem hj, Option.getD_some]]
  exact hc.symm
def getB (l : List UInt8) (i n : Int) : Option Int := if 0 ≤ n ∧ n ≤ 7 ∧ 0 ≤ i ∧ i + n ≤ l.length then some (leN ((l.drop i.toNat).take n.toNat)) else none
section
attribute [local go_sem] bs_size
set_option maxRecDepth 100000 in
set_option maxHeartbeats 400000 in
theorem binGet_yes (l : List UInt8) (i n : Nat) (w : World) (hl : l.length ≤ 140737488351232) (h7 : n ≤ 7) (hin : i + n ≤ l.length) :
    Calls Try.prog 103 #[.string (bs l), .int .i64 i, .int .i64 n] w fun e w' => e = .returned (.tuple #[.int .i64 (leN ((l.drop i).take n)), .bool true]) ∧ Below w.heap.size w w' := by
  have hx : (bs l).extract i (i + n) = bs ((l.drop i).take n) := by rw [bs_extract, Nat.add_sub_cancel_left]
  have ht : ((l.drop i).take n).length ≤ 7 := by rw [List.length_take]; omega
  generalize (l.drop i).take n = t at *
  have hcv := fun W : World => Lib.run_convert_string_bytes (P := Try.prog) W 9 38 5 (bs t) Try.underlying9 Try.underlying38 Try.underlying5
  go_enter Try.func103, Try.ntmps103
  go_wp2_with (go_at_call 137; refine (number_any _ t _ (bytes_reads w t) ht).mono ?_; rintro e w' ⟨rfl, rfl⟩)
  go_ret2
  exact ⟨rfl, bytes_below _ _ _⟩
set_option maxRecDepth 100000 in
set_option maxHeartbeats 400000 in
theorem binGet_no (l : List UInt8) (i n : Int) (w : World) (hl : l.length ≤ 140737488351232) (hin : ¬ (0 ≤ n ∧ n ≤ 7 ∧ 0 ≤ i ∧ i + n ≤ l.length)) :
    Calls Try.prog 103 #[.string (bs l), .int .i64 i, .int .i64 n] w fun e w' => e = .returned (.tuple #[.int .i64 0, .bool false]) ∧ w = w' := by
  have hw : n < 0 ∨ (0 ≤ n ∧ 7 < n) ∨ ((0 ≤ n ∧ n ≤ 7) ∧ i < 0) ∨ ((0 ≤ n ∧ n ≤ 7) ∧ 0 ≤ i ∧ (l.length : Int) - n < i) := by omega
  clear hin
  rcases hw with h | ⟨h1, h2⟩ | ⟨⟨h1, h2⟩, h3⟩ | ⟨⟨h1, h2⟩, h3, h4⟩
  all_goals
    go_enter Try.func103, Try.ntmps103
    go_wp2
    go_ret2
    exact ⟨rfl, rfl⟩
end
theorem binGet_any (l : List UInt8) (i n : Int) (w : World) (hl : l.length ≤ 140737488351232) :
    Calls Try.prog 103 #[.string (bs l), .int .i64 i, .int .i64 n] w fun e w' => e = .returned (.tuple #[.int .i64 ((getB l i n).getD 0), .bool (getB l i n).isSome]) ∧ Below w.heap.size w w' := by
  by_cases h : 0 ≤ n ∧ n ≤ 7 ∧ 0 ≤ i ∧ i + n ≤ l.length
  · obtain ⟨m, rfl⟩ := Int.eq_ofNat_of_zero_le h.1
    obtain ⟨j, rfl⟩ := Int.eq_ofNat_of_zero_le h.2.2.1
    have e : getB l j m = some (leN ((l.drop j).take m)) := by unfold getB; rw [if_pos h]; rfl
    rw [e]
    exact (binGet_yes l j m w hl (by omega) (by omega))
  · have e : getB l i n = none := by unfold getB; rw [if_neg h]
    rw [e]
    exact (binGet_no l i n w hl h).mono fun e w' ⟨he, hw⟩ => ⟨he, hw ▸ Below.refl _ _⟩

section
attribute [local go_sem] bs_size bs_get vB_of
set_option maxRecDepth 100000 in
set_option maxHeartbeats 400000 in
theorem refGet_yes (l : List UInt8) (i n : Nat) (w : World) (hl : l.length ≤ 140737488351232) (h7 : n ≤ 7) (hin : i + n ≤ l.length) :
    Calls Try.prog 123 #[.string (bs l), .int .i64 i, .int .i64 n] w fun e w' => e = .returned (.tuple #[.int .i64 (leN ((l.drop i).take n)), .bool true]) ∧ w = w' := by
  have ht : ((l.drop i).take n).length = n := by rw [List.length_take, List.length_drop]; omega
  have hn : ∀ k, k < n → nth ((l.drop i).take n) k = nth l (i + k) := fun k hk => by simp [nth, hk]
  have HT := Lib.hid ht
  have HN := Lib.hid hn
  clear ht hn
  generalize (l.drop i).take n = t at *
  go_enter Try.func123, Try.ntmps123
  go_wp2
  go_loop [8, 9] (fun x j => ∃ k : Nat, k ≤ n ∧ j = .int .i64 ((k : Int) - 1) ∧ x = .int .i64 (leN (t.drop k))) (fun _ j => (intOf j + 1).toNat)
  case atStart => exact ⟨n, by omega, rfl, by rw [List.drop_eq_nil_of_le (by rw [HT.out]; omega)]; rfl⟩
  case round =>
    obtain ⟨k, hk, rfl, rfl⟩ := hrel
    by_cases hlt : 1 ≤ k
    · obtain ⟨j, rfl⟩ : ∃ j, k = j + 1 := ⟨k - 1, by omega⟩
      have hbd : 0 ≤ leN (t.drop (j + 1)) ∧ leN (t.drop (j + 1)) < 281474976710656 := leN_lt (t.drop (j + 1)) 6 (by rw [List.length_drop, HT.out]; omega)
      have hvb := vB_bd (nth l (i + j))
      have HD : Hid (leN (t.drop j) = vB (nth l (i + j)) + 256 * leN (t.drop (j + 1))) := by
        rw [← HN.out j (by omega)]; exact leN_drop t j (by rw [HT.out]; omega)
      have hor := or_byte (leN (t.drop (j + 1))) (nth l (i + j)) hbd.1 hbd.2
      generalize leN (t.drop (j + 1)) = x at *
      go_wp2
      go_round
      case rel => exact ⟨j, by omega, rfl, by rw [HD.out]⟩
      case measure => simp only [intOf]; omega
    · go_wp2
      go_ret2
      obtain rfl : k = 0 := by omega
      exact ⟨rfl, rfl⟩
set_option maxRecDepth 100000 in
set_option maxHeartbeats 400000 in
theorem refGet_no (l : List UInt8) (i n : Int) (w : World) (hl : l.length ≤ 140737488351232) (hin : ¬ (0 ≤ n ∧ n ≤ 7 ∧ 0 ≤ i ∧ i + n ≤ l.length)) :
    Calls Try.prog 123 #[.string (bs l), .int .i64 i, .int .i64 n] w fun e w' => e = .returned (.tuple #[.int .i64 0, .bool false]) ∧ w = w' := by
  have hw : n < 0 ∨ (0 ≤ n ∧ 7 < n) ∨ ((0 ≤ n ∧ n ≤ 7) ∧ i < 0) ∨ ((0 ≤ n ∧ n ≤ 7) ∧ 0 ≤ i ∧ (l.length : Int) < i) ∨ ((0 ≤ n ∧ n ≤ 7) ∧ 0 ≤ i ∧ i ≤ (l.length : Int) ∧ (l.length : Int) - i < n) := by omega
  clear hin
  rcases hw with h | ⟨h1, h2⟩ | ⟨⟨h1, h2⟩, h3⟩ | ⟨⟨h1, h2⟩, h3, h4⟩ | ⟨⟨h1, h2⟩, h3, h4, h5⟩
  all_goals
    go_enter Try.func123, Try.ntmps123
    go_wp2
    go_ret2
    exact ⟨rfl, rfl⟩
end
theorem refGet_any (l : List UInt8) (i n : Int) (w : World) (hl : l.length ≤ 140737488351232) :
    Calls Try.prog 123 #[.string (bs l), .int .i64 i, .int .i64 n] w fun e w' => e = .returned (.tuple #[.int .i64 ((getB l i n).getD 0), .bool (getB l i n).isSome]) ∧ w = w' := by
  by_cases h : 0 ≤ n ∧ n ≤ 7 ∧ 0 ≤ i ∧ i + n ≤ l.length
  · obtain ⟨m, rfl⟩ := Int.eq_ofNat_of_zero_le h.1
    obtain ⟨j, rfl⟩ := Int.eq_ofNat_of_zero_le h.2.2.1
    have e : getB l j m = some (leN ((l.drop j).take m)) := by unfold getB; rw [if_pos h]; rfl
    rw [e]
    exact (refGet_yes l j m w hl (by omega) (by omega))
  · have e : getB l i n = none := by unfold getB; rw [if_neg h]
    rw [e]
    exact refGet_no l i n w hl h
end Go.Proofs.Ytjoplgdcpihmaaa
