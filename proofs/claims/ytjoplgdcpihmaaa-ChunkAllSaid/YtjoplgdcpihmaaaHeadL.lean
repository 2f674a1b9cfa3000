/- The head's awake, Place. -/
import Derived.Test.YtjoplgdcpihmaaaHeadK
import Derived.Test.YtjoplgdcpihmaaaHeadP
namespace Go.Proofs.Ytjoplgdcpihmaaa
open Go.RowKit

theorem getHead_short {s : List UInt8} (h : s.length < 256) : getHead s = none := by unfold getHead; rw [if_pos h]
theorem headGet_any (s : List UInt8) (w : World) (hs : s.length ≤ 140737488351232) :
    Calls Try.prog 30 #[.string (bs s)] w fun e w' => Below w.heap.size w w' ∧ 
      (getHead s = none ∧ e = .returned (.tuple #[.agg #[.int .i64 0, .int .i64 0, .int .i64 0, .int .i64 0, .int .i64 0, .int .i64 0, .int .i64 0, .int .i64 0, .slice none 0 0], .int .i64 0, .bool false]) ∨
       ∃ h l n v, getHead s = some (h, l, n) ∧ EE.Own w' w.heap.size v l ∧ e = .returned (.tuple #[.agg #[.int .i64 h.house, .int .i64 h.gen, .int .i64 h.life, .int .i64 h.seq, .int .i64 h.next, .int .i64 h.clock, .int .i64 h.sb, .int .i64 h.sn, v], .int .i64 n, .bool true])) := by
  by_cases h : s.length < 256
  · exact (headGet_short s w h).mono fun e w' ⟨he, hb⟩ => ⟨hb, .inl ⟨getHead_short h, he⟩⟩
  · exact headGet_long s w (by omega) hs
/-- head.Get where the head is known. -/
theorem headGet_some (s : List UInt8) (h : Hd) (l : List Ent) (n : Int) (w : World) (hs : s.length ≤ 140737488351232) (hg : getHead s = some (h, l, n)) :
    Calls Try.prog 30 #[.string (bs s)] w fun e w' => Below w.heap.size w w' ∧ ∃ A c, EE.Own w' w.heap.size (.slice A l.length c) l ∧ e = .returned (.tuple #[.agg #[.int .i64 h.house, .int .i64 h.gen, .int .i64 h.life, .int .i64 h.seq, .int .i64 h.next, .int .i64 h.clock, .int .i64 h.sb, .int .i64 h.sn, .slice A l.length c], .int .i64 n, .bool true]) := by
  refine (headGet_any s w hs).mono ?_
  rintro e w' ⟨hb, h1 | ⟨h', l', n', v, h1, h2, h3⟩⟩
  · rw [hg] at h1; cases h1.1
  · rw [hg] at h1
    simp only [Option.some.injEq, Prod.mk.injEq] at h1
    obtain ⟨rfl, rfl, rfl⟩ := h1
    obtain ⟨A, c, rfl, _⟩ := h2.reads
    exact ⟨hb, A, c, h2, h3⟩
theorem headPut_some (h : Hd) (v : Value) (l : List Ent) (body s : List UInt8) (w : World) (hr : EE.Reads w v l) (hl : l.length * 24 ≤ 140737488351232) (hs : body.length ≤ 140737488351232) (hp : headPut h l body = some s) :
    Calls Try.prog 27 #[.agg #[.int .i64 h.house, .int .i64 h.gen, .int .i64 h.life, .int .i64 h.seq, .int .i64 h.next, .int .i64 h.clock, .int .i64 h.sb, .int .i64 h.sn, v], .string (bs body)] w
      fun e w' => e = .returned (.tuple #[.string (bs s), .bool true]) ∧ Below w.heap.size w w' := by
  refine (headPut_any h v l body w hr hl hs).mono ?_
  rintro e w' ⟨rfl, hb⟩
  rw [hp]; exact ⟨rfl, hb⟩
theorem headPut_none (h : Hd) (v : Value) (l : List Ent) (body : List UInt8) (w : World) (hr : EE.Reads w v l) (hl : l.length * 24 ≤ 140737488351232) (hs : body.length ≤ 140737488351232) (hp : headPut h l body = none) :
    Calls Try.prog 27 #[.agg #[.int .i64 h.house, .int .i64 h.gen, .int .i64 h.life, .int .i64 h.seq, .int .i64 h.next, .int .i64 h.clock, .int .i64 h.sb, .int .i64 h.sn, v], .string (bs body)] w
      fun e w' => e = .returned (.tuple #[.string (bs []), .bool false]) ∧ Below w.heap.size w w' := by
  refine (headPut_any h v l body w hr hl hs).mono ?_
  rintro e w' ⟨rfl, hb⟩
  rw [hp]; exact ⟨rfl, hb⟩
theorem headPut_is {h : Hd} {l : List Ent} {body : List UInt8} (hc : checkB h l = true) (hl : body.length = l.length * 256) : headPut h l body = some (headBytes h l ++ putB (sumOf (headBytes h l) body) 4) := by
  unfold headPut; rw [if_pos ⟨hc, hl⟩]

def hd9 : Hd := ⟨1, 1, 1, 9, 0, 0, 0, 0⟩
theorem hd9_ok : checkB hd9 [] = true := by decide
section
attribute [local go_sem] bs_size
set_option maxRecDepth 100000 in
set_option maxHeartbeats 1000000 in
theorem awake8_any (w : World) : Calls Try.prog 26 #[] w fun e w' => e = .returned (.bool true) ∧ Below w.heap.size w w' := by
  obtain ⟨s, hs⟩ : ∃ s, headPut hd9 [] [] = some s := ⟨_, headPut_is hd9_ok rfl⟩
  have HP := Lib.hid hs
  obtain ⟨hg0, hl0⟩ := get_put hs []
  have hg : getHead s = some (hd9, [], sumOf s []) := by rw [List.append_nil] at hg0; exact hg0
  have HG := Lib.hid hg
  have HL := Lib.hid hl0
  have hle : (s.length : Int) = 256 := by omega
  clear hs hg0 hg hl0
  go_enter Try.func26, Try.ntmps26
  go_wp2_with fail
  refine (headPut_some hd9 (.slice none 0 0) [] [] s _ (El.Reads.nil _) (by decide) (by decide) HP.out).mono ?_
  rintro e w1 ⟨rfl, hb1⟩
  have HB1 := Lib.hid hb1
  clear hb1
  go_wp2_with fail
  refine (headGet_some s hd9 [] _ _ (by rw [HL.out]; decide) HG.out).mono ?_
  rintro e w2 ⟨hb2, A, c, -, rfl⟩
  have HB2 := Lib.hid hb2
  clear hb2
  generalize hn : sumOf s [] = n
  have HN := Lib.hid hn
  clear hn
  go_wp2_with fail
  refine (sum_any s [] _ (by rw [HL.out]; decide) (by decide)).mono ?_
  rintro e w3 ⟨rfl, hb3⟩
  have HB3 := Lib.hid hb3
  clear hb3
  rw [HN.out]
  go_wp2
  go_ret
  refine ⟨rfl, ?_⟩
  have h2 := HB1.out.trans (HB2.out.mono HB1.out.size)
  have h2' := h2.alloc h2.size (.cells #[.int .i64 1, .int .i64 1, .int .i64 1, .int .i64 9, .int .i64 0, .int .i64 0, .int .i64 0, .int .i64 0, .slice A 0 c] 24)
  exact h2'.trans (HB3.out.mono (by have := h2'.size; simpa using this))
end
/-! ### Place -/
def placeOf (v n : Int) : Int := v % n
section
set_option maxHeartbeats 400000 in
theorem place_any (v : Int) (n : Int) (w : World) (hv : -9223372036854775808 ≤ v) (hv1 : v ≤ 9223372036854775807) (hn : 1 ≤ n) (hn1 : n ≤ 4611686018427387904) :
    Calls Try.prog 38 #[.int .i64 v, .int .i64 n] w fun e w' => e = .returned (.int .i64 (placeOf v n)) ∧ w = w' := by
  by_cases h0 : 0 ≤ v
  · have hp : Hid (placeOf v n = v % n) := rfl
    have h1 : 0 ≤ v % n := Int.emod_nonneg _ (by omega)
    go_enter Try.func38, Try.ntmps38
    go_wp2
    go_ret
    exact ⟨ret_int hp.out.symm, rfl⟩
  · have hb : -n < v.tmod n ∧ v.tmod n ≤ 0 := by
      have h1 := Int.tmod_eq_emod (a := v) (b := n)
      have h2 := Int.emod_nonneg v (show n ≠ 0 by omega)
      have h3 := Int.emod_lt_of_pos v (show 0 < n by omega)
      split at h1
      · rename_i hd
        rcases hd with hd | hd
        · omega
        · have := Int.emod_eq_zero_of_dvd hd; omega
      · rename_i hd
        have hne : v % n ≠ 0 := fun e => hd (.inr (Int.dvd_of_emod_eq_zero e))
        omega
    have hp : Hid (placeOf v n = if v.tmod n < 0 then v.tmod n + n else v.tmod n) := by
      unfold Hid placeOf
      have h1 := Int.tmod_eq_emod (a := v) (b := n)
      have h3 := Int.emod_lt_of_pos v (show 0 < n by omega)
      split at h1
      · rename_i hd
        rcases hd with hd | hd
        · omega
        · have := Int.emod_eq_zero_of_dvd hd
          rw [if_neg (by omega)]; omega
      · rename_i hd
        have hne : v % n ≠ 0 := fun e => hd (.inr (Int.dvd_of_emod_eq_zero e))
        rw [if_pos (by omega)]; omega
    by_cases h1 : v.tmod n < 0
    · go_enter Try.func38, Try.ntmps38
      go_wp2
      go_ret
      exact ⟨ret_int (by rw [hp.out, if_pos h1]), rfl⟩
    · go_enter Try.func38, Try.ntmps38
      go_wp2
      go_ret
      exact ⟨ret_int (by rw [hp.out, if_neg (by omega)]), rfl⟩
end
theorem placeOf_bd (v n : Int) (hn : 1 ≤ n) : 0 ≤ placeOf v n ∧ placeOf v n < n := ⟨Int.emod_nonneg _ (by omega), Int.emod_lt_of_pos _ (by omega)⟩
end Go.Proofs.Ytjoplgdcpihmaaa
