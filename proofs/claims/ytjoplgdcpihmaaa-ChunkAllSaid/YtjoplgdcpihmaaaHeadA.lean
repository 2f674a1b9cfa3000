/- A chunk's head: which heads may be (head.Check and the document's own). -/
import Derived.Test.YtjoplgdcpihmaaaBin2
namespace Go.Proofs.Ytjoplgdcpihmaaa
open Go.RowKit

structure Ent where
  k : Int
  n : Int
  p : Int
structure Hd where
  house : Int
  gen : Int
  life : Int
  seq : Int
  next : Int
  clock : Int
  sb : Int
  sn : Int
theorem info42 : (Try.prog.info? 42).map (fun i => (i.zero, i.size, i.bytes)) = some (some (.agg #[.int .i64 0, .int .i64 0, .int .i64 0]), 3, 24) := by kernel_rfl
theorem ent_one (c : Ent) (u : Value) (hu : u ∈ [Value.int .i64 c.k, .int .i64 c.n, .int .i64 c.p]) : u.oneCell' = true := by
  simp at hu
  rcases hu with rfl | rfl | rfl <;> rfl
/-- Entries. -/
def EE : El Ent := { t := 22, e := 42, size := 3, bytes := 24, z := .agg #[.int .i64 0, .int .i64 0, .int .i64 0], enc := fun c => [.int .i64 c.k, .int .i64 c.n, .int .i64 c.p], len := fun _ => rfl, one := ent_one, pos := by decide, ht := Try.underlying22, hinfo := info42, hz := rfl }

theorem EE_at {w : World} {v : Value} {l : List Ent} (h : EE.Reads w v l) (i : Nat) (hi : i < l.length) : ∃ b o c, v = .slice (some ⟨b, o, none⟩) l.length c ∧ b < w.heap.size ∧
    w.cell? ⟨b, o + i * 3, none⟩ = some (.int .i64 l[i].k) ∧ w.cell? ⟨b, o + i * 3 + 1, none⟩ = some (.int .i64 l[i].n) ∧ w.cell? ⟨b, o + i * 3 + 2, none⟩ = some (.int .i64 l[i].p) := by
  obtain ⟨b, o, c, hv, hb, hc⟩ := h.at i l[i] (List.getElem?_eq_getElem hi)
  exact ⟨b, o, c, hv, hb, hc 0 _ rfl, hc 1 _ rfl, hc 2 _ rfl⟩

def inB (a b c : Int) : Bool := decide (b ≤ a) && decide (a ≤ c)
theorem inB_true {a b c : Int} (h0 : b ≤ a) (h1 : a ≤ c) : inB a b c = true := by simp [inB, h0, h1]
theorem inB_false {a b c : Int} (h : a < b ∨ c < a) : inB a b c = false := by
  unfold inB
  rcases h with h | h
  · rw [decide_eq_false (by omega)]; rfl
  · rw [decide_eq_false (p := a ≤ c) (by omega), Bool.and_false]
theorem inB_zero (p : Int) : inB p 0 0 = (p == 0) := by
  unfold inB; rw [Bool.eq_iff_iff]; simp; omega
theorem inB_iff {a b c : Int} : inB a b c = true ↔ b ≤ a ∧ a ≤ c := by simp [inB]
theorem in_any (a b c : Int) (w : World) :
    Calls Try.prog 93 #[.int .i64 a, .int .i64 b, .int .i64 c] w fun e w' => e = .returned (.bool (inB a b c)) ∧ w = w' := by
  by_cases h0 : b ≤ a
  · by_cases h1 : a ≤ c
    · rw [inB_true h0 h1]
      go_enter Try.func93, Try.ntmps93
      go_wp2
      go_ret
      exact ⟨rfl, rfl⟩
    · rw [inB_false (by omega)]
      go_enter Try.func93, Try.ntmps93
      go_wp2
      go_ret
      exact ⟨rfl, rfl⟩
  · rw [inB_false (by omega)]
    go_enter Try.func93, Try.ntmps93
    go_wp2
    go_ret
    exact ⟨rfl, rfl⟩
theorem refin_any (a b c : Int) (w : World) :
    Calls Try.prog 96 #[.int .i64 a, .int .i64 b, .int .i64 c] w fun e w' => e = .returned (.bool (inB a b c)) ∧ w = w' := by
  by_cases h0 : b ≤ a
  · by_cases h1 : a ≤ c
    · rw [inB_true h0 h1]
      go_enter Try.func96, Try.ntmps96
      go_wp2
      go_ret
      exact ⟨rfl, rfl⟩
    · rw [inB_false (by omega)]
      go_enter Try.func96, Try.ntmps96
      go_wp2
      go_ret
      exact ⟨rfl, rfl⟩
  · rw [inB_false (by omega)]
    go_enter Try.func96, Try.ntmps96
    go_wp2
    go_ret
    exact ⟨rfl, rfl⟩

theorem in_val (a b c : Int) (r : Bool) (w : World) (h : inB a b c = r) :
    Calls Try.prog 93 #[.int .i64 a, .int .i64 b, .int .i64 c] w fun e w' => e = .returned (.bool r) ∧ w = w' := h ▸ in_any a b c w
theorem refin_val (a b c : Int) (r : Bool) (w : World) (h : inB a b c = r) :
    Calls Try.prog 96 #[.int .i64 a, .int .i64 b, .int .i64 c] w fun e w' => e = .returned (.bool r) ∧ w = w' := h ▸ refin_any a b c w

def mostOf (k : Int) : Int := if k = 1 then 587 else if k = 2 then 9 else if k = 4 then 3 else 0
def entB (e : Ent) : Bool := inB e.k 1 5 && (inB e.n 1 255 && (inB e.p 0 (mostOf e.k) && (e.k != 4 || e.n == 1)))
/-- Which of the tests says no first. -/
theorem ent_ways (c : Ent) (m : Int) (hm : mostOf c.k = m) : (inB c.k 1 5 = false ∧ entB c = false) ∨ (inB c.k 1 5 = true ∧ inB c.n 1 255 = false ∧ entB c = false) ∨
    (inB c.k 1 5 = true ∧ inB c.n 1 255 = true ∧ inB c.p 0 m = false ∧ entB c = false) ∨
    (inB c.k 1 5 = true ∧ inB c.n 1 255 = true ∧ inB c.p 0 m = true ∧ entB c = (c.k != 4 || c.n == 1)) := by
  subst hm
  unfold entB
  cases inB c.k 1 5 <;> cases inB c.n 1 255 <;> cases inB c.p 0 (mostOf c.k) <;> simp
set_option maxRecDepth 100000 in
set_option maxHeartbeats 1000000 in
theorem entry_any (c : Ent) (w : World) :
    Calls Try.prog 94 #[.agg #[.int .i64 c.k, .int .i64 c.n, .int .i64 c.p]] w fun e w' => e = .returned (.bool (entB c)) ∧ Below w.heap.size w w' := by
  have hbel : Hid (Below w.heap.size w (w.alloc (.cells #[.int .i64 c.k, .int .i64 c.n, .int .i64 c.p] 42))) := (Below.refl _ _).alloc (Nat.le_refl _) _
  have hw := ent_ways c _ rfl
  obtain ⟨k, n, p⟩ := c
  simp only at hw hbel ⊢
  have hk : k = 1 ∨ k = 2 ∨ k = 4 ∨ (k ≠ 1 ∧ k ≠ 2 ∧ k ≠ 4) := by omega
  rcases hk with rfl | rfl | rfl | ⟨g1, g2, g4⟩
  · rw [show mostOf 1 = 587 from rfl] at hw
    rcases hw with ⟨h1, hr⟩ | ⟨h1, h2, hr⟩ | ⟨h1, h2, h3, hr⟩ | ⟨h1, h2, h3, hr⟩
    · exact absurd h1 (by decide)
    all_goals
      rw [hr]
      clear hr
      go_enter Try.func94, Try.ntmps94
      go_wp2_with (go_at_call 93; refine (in_val _ _ _ _ _ (by with_reducible assumption)).mono ?_; rintro e w' ⟨rfl, rfl⟩)
      go_ret
      exact ⟨rfl, hbel.out⟩
  · rw [show mostOf 2 = 9 from rfl] at hw
    rcases hw with ⟨h1, hr⟩ | ⟨h1, h2, hr⟩ | ⟨h1, h2, h3, hr⟩ | ⟨h1, h2, h3, hr⟩
    · exact absurd h1 (by decide)
    all_goals
      rw [hr]
      clear hr
      go_enter Try.func94, Try.ntmps94
      go_wp2_with (go_at_call 93; refine (in_val _ _ _ _ _ (by with_reducible assumption)).mono ?_; rintro e w' ⟨rfl, rfl⟩)
      go_ret
      exact ⟨rfl, hbel.out⟩
  · rw [show mostOf 4 = 3 from rfl] at hw
    rcases hw with ⟨h1, hr⟩ | ⟨h1, h2, hr⟩ | ⟨h1, h2, h3, hr⟩ | ⟨h1, h2, h3, hr⟩
    · exact absurd h1 (by decide)
    all_goals
      rw [hr]
      clear hr
      go_enter Try.func94, Try.ntmps94
      go_wp2_with (go_at_call 93; refine (in_val _ _ _ _ _ (by with_reducible assumption)).mono ?_; rintro e w' ⟨rfl, rfl⟩)
      go_ret
      exact ⟨rfl, hbel.out⟩
  · rw [show mostOf k = 0 by unfold mostOf; rw [if_neg g1, if_neg g2, if_neg g4]] at hw
    have e1 : (k == 1) = false := by simpa using g1
    have e2 : (k == 2) = false := by simpa using g2
    have e4 : (k == 4) = false := by simpa using g4
    have e5 : (k != 4) = true := by simpa using g4
    clear g1 g2 g4
    rcases hw with ⟨h1, hr⟩ | ⟨h1, h2, hr⟩ | ⟨h1, h2, h3, hr⟩ | ⟨h1, h2, h3, hr⟩
    all_goals
      rw [hr]
      clear hr
      go_enter Try.func94, Try.ntmps94
      go_wp2_with (go_at_call 93; refine (in_val _ _ _ _ _ (by with_reducible assumption)).mono ?_; rintro e w' ⟨rfl, rfl⟩)
      go_ret
      exact ⟨by first | rfl | (rw [e5]; rfl), hbel.out⟩

set_option maxRecDepth 100000 in
set_option maxHeartbeats 1000000 in
theorem refentry_any (c : Ent) (w : World) :
    Calls Try.prog 95 #[.agg #[.int .i64 c.k, .int .i64 c.n, .int .i64 c.p]] w fun e w' => e = .returned (.bool (entB c)) ∧ Below w.heap.size w w' := by
  have hbel : Hid (Below w.heap.size w (w.alloc (.cells #[.int .i64 c.k, .int .i64 c.n, .int .i64 c.p] 42))) := (Below.refl _ _).alloc (Nat.le_refl _) _
  obtain ⟨k, n, p⟩ := c
  simp only at hbel ⊢
  cases h2 : inB n 1 255 with
  | false =>
    rw [show entB ⟨k, n, p⟩ = false by simp [entB, h2]]
    go_enter Try.func95, Try.ntmps95
    go_wp2_with (go_at_call 96; refine (refin_val _ _ _ _ _ (by with_reducible assumption)).mono ?_; rintro e w' ⟨rfl, rfl⟩)
    go_ret
    exact ⟨rfl, hbel.out⟩
  | true =>
    have hk : k = 1 ∨ k = 2 ∨ k = 4 ∨ k = 3 ∨ k = 5 ∨ (k < 1 ∨ 5 < k) := by omega
    rcases hk with rfl | rfl | rfl | rfl | rfl | hk
    · cases h3 : inB p 0 587 with
      | false =>
        rw [show entB ⟨1, n, p⟩ = false by simp [entB, h2, h3, mostOf]]
        go_enter Try.func95, Try.ntmps95
        go_wp2_with (go_at_call 96; refine (refin_val _ _ _ _ _ (by with_reducible assumption)).mono ?_; rintro e w' ⟨rfl, rfl⟩)
        go_ret
        exact ⟨rfl, hbel.out⟩
      | true =>
        rw [show entB ⟨1, n, p⟩ = true by simp [entB, h2, h3, mostOf, inB_true]]
        go_enter Try.func95, Try.ntmps95
        go_wp2_with (go_at_call 96; refine (refin_val _ _ _ _ _ (by with_reducible assumption)).mono ?_; rintro e w' ⟨rfl, rfl⟩)
        go_ret
        exact ⟨rfl, hbel.out⟩
    · cases h3 : inB p 0 9 with
      | false =>
        rw [show entB ⟨2, n, p⟩ = false by simp [entB, h2, h3, mostOf]]
        go_enter Try.func95, Try.ntmps95
        go_wp2_with (go_at_call 96; refine (refin_val _ _ _ _ _ (by with_reducible assumption)).mono ?_; rintro e w' ⟨rfl, rfl⟩)
        go_ret
        exact ⟨rfl, hbel.out⟩
      | true =>
        rw [show entB ⟨2, n, p⟩ = true by simp [entB, h2, h3, mostOf, inB_true]]
        go_enter Try.func95, Try.ntmps95
        go_wp2_with (go_at_call 96; refine (refin_val _ _ _ _ _ (by with_reducible assumption)).mono ?_; rintro e w' ⟨rfl, rfl⟩)
        go_ret
        exact ⟨rfl, hbel.out⟩
    · cases h3 : inB p 0 3 with
      | false =>
        rw [show entB ⟨4, n, p⟩ = false by simp [entB, h2, h3, mostOf]]
        go_enter Try.func95, Try.ntmps95
        go_wp2_with (go_at_call 96; refine (refin_val _ _ _ _ _ (by with_reducible assumption)).mono ?_; rintro e w' ⟨rfl, rfl⟩)
        go_ret
        exact ⟨rfl, hbel.out⟩
      | true =>
        rw [show entB ⟨4, n, p⟩ = (n == 1) by simp [entB, h2, h3, mostOf, inB_true]]
        go_enter Try.func95, Try.ntmps95
        go_wp2_with (go_at_call 96; refine (refin_val _ _ _ _ _ (by with_reducible assumption)).mono ?_; rintro e w' ⟨rfl, rfl⟩)
        go_ret
        exact ⟨rfl, hbel.out⟩
    · rw [show entB ⟨3, n, p⟩ = (p == 0) by simp [entB, h2, mostOf, inB_true, inB_zero]]
      go_enter Try.func95, Try.ntmps95
      go_wp2_with (go_at_call 96; refine (refin_val _ _ _ _ _ (by with_reducible assumption)).mono ?_; rintro e w' ⟨rfl, rfl⟩)
      go_ret
      exact ⟨rfl, hbel.out⟩
    · rw [show entB ⟨5, n, p⟩ = (p == 0) by simp [entB, h2, mostOf, inB_true, inB_zero]]
      go_enter Try.func95, Try.ntmps95
      go_wp2_with (go_at_call 96; refine (refin_val _ _ _ _ _ (by with_reducible assumption)).mono ?_; rintro e w' ⟨rfl, rfl⟩)
      go_ret
      exact ⟨rfl, hbel.out⟩
    · rw [show entB ⟨k, n, p⟩ = false by simp [entB, inB_false hk]]
      have e1 : (k == 1) = false := by rw [beq_eq_false_iff_ne]; omega
      have e2 : (k == 2) = false := by rw [beq_eq_false_iff_ne]; omega
      have e3 : (k == 3) = false := by rw [beq_eq_false_iff_ne]; omega
      have e4 : (k == 4) = false := by rw [beq_eq_false_iff_ne]; omega
      have e5 : (k == 5) = false := by rw [beq_eq_false_iff_ne]; omega
      clear hk
      go_enter Try.func95, Try.ntmps95
      go_wp2_with (go_at_call 96; refine (refin_val _ _ _ _ _ (by with_reducible assumption)).mono ?_; rintro e w' ⟨rfl, rfl⟩)
      go_ret
      exact ⟨rfl, hbel.out⟩
end Go.Proofs.Ytjoplgdcpihmaaa
