/- Bounds of a house: which may be (table.CheckLimit and the document's own). -/
import Derived.Test.YtjoplgdcpihmaaaHeadA
namespace Go.Proofs.Ytjoplgdcpihmaaa
open Go.RowKit

theorem tin_any (a b c : Int) (w : World) :
    Calls Try.prog 100 #[.int .i64 a, .int .i64 b, .int .i64 c] w fun e w' => e = .returned (.bool (inB a b c)) ∧ w = w' := by
  by_cases h0 : b ≤ a
  · by_cases h1 : a ≤ c
    · rw [inB_true h0 h1]
      go_enter Try.func100, Try.ntmps100
      go_wp2
      go_ret
      exact ⟨rfl, rfl⟩
    · rw [inB_false (by omega)]
      go_enter Try.func100, Try.ntmps100
      go_wp2
      go_ret
      exact ⟨rfl, rfl⟩
  · rw [inB_false (by omega)]
    go_enter Try.func100, Try.ntmps100
    go_wp2
    go_ret
    exact ⟨rfl, rfl⟩
theorem tin_val (a b c : Int) (r : Bool) (w : World) (h : inB a b c = r) :
    Calls Try.prog 100 #[.int .i64 a, .int .i64 b, .int .i64 c] w fun e w' => e = .returned (.bool r) ∧ w = w' := h ▸ tin_any a b c w
theorem rin_any (a b c : Int) (w : World) :
    Calls Try.prog 106 #[.int .i64 a, .int .i64 b, .int .i64 c] w fun e w' => e = .returned (.bool (inB a b c)) ∧ w = w' := by
  by_cases h0 : b ≤ a
  · by_cases h1 : a ≤ c
    · rw [inB_true h0 h1]
      go_enter Try.func106, Try.ntmps106
      go_wp2
      go_ret
      exact ⟨rfl, rfl⟩
    · rw [inB_false (by omega)]
      go_enter Try.func106, Try.ntmps106
      go_wp2
      go_ret
      exact ⟨rfl, rfl⟩
  · rw [inB_false (by omega)]
    go_enter Try.func106, Try.ntmps106
    go_wp2
    go_ret
    exact ⟨rfl, rfl⟩
theorem rin_val (a b c : Int) (r : Bool) (w : World) (h : inB a b c = r) :
    Calls Try.prog 106 #[.int .i64 a, .int .i64 b, .int .i64 c] w fun e w' => e = .returned (.bool r) ∧ w = w' := h ▸ rin_any a b c w

structure Lim where
  sg : Int
  hb : Int
  sb : Int
  hn : Int
  sn : Int
  gr : Int
  bu : Int
def limB (x : Lim) : Bool := inB x.sg 8 40 && (inB x.hb 0 100000 && (inB x.sb 0 x.hb && (inB x.hn 1 255 && (inB x.sn 1 x.hn && (inB x.gr 0 1099511627776 && (inB x.bu 0 1000))))))
theorem lim_ways (x : Lim) :
    (inB x.sg 8 40 = false ∧ limB x = false) ∨
    (inB x.sg 8 40 = true ∧ inB x.hb 0 100000 = false ∧ limB x = false) ∨
    (inB x.sg 8 40 = true ∧ inB x.hb 0 100000 = true ∧ inB x.sb 0 x.hb = false ∧ limB x = false) ∨
    (inB x.sg 8 40 = true ∧ inB x.hb 0 100000 = true ∧ inB x.sb 0 x.hb = true ∧ inB x.hn 1 255 = false ∧ limB x = false) ∨
    (inB x.sg 8 40 = true ∧ inB x.hb 0 100000 = true ∧ inB x.sb 0 x.hb = true ∧ inB x.hn 1 255 = true ∧ inB x.sn 1 x.hn = false ∧ limB x = false) ∨
    (inB x.sg 8 40 = true ∧ inB x.hb 0 100000 = true ∧ inB x.sb 0 x.hb = true ∧ inB x.hn 1 255 = true ∧ inB x.sn 1 x.hn = true ∧ inB x.gr 0 1099511627776 = false ∧ limB x = false) ∨
    (inB x.sg 8 40 = true ∧ inB x.hb 0 100000 = true ∧ inB x.sb 0 x.hb = true ∧ inB x.hn 1 255 = true ∧ inB x.sn 1 x.hn = true ∧ inB x.gr 0 1099511627776 = true ∧ inB x.bu 0 1000 = false ∧ limB x = false) ∨
    (inB x.sg 8 40 = true ∧ inB x.hb 0 100000 = true ∧ inB x.sb 0 x.hb = true ∧ inB x.hn 1 255 = true ∧ inB x.sn 1 x.hn = true ∧ inB x.gr 0 1099511627776 = true ∧ inB x.bu 0 1000 = true ∧ limB x = true) := by
  unfold limB
  generalize inB x.sg 8 40 = b0
  generalize inB x.hb 0 100000 = b1
  generalize inB x.sb 0 x.hb = b2
  generalize inB x.hn 1 255 = b3
  generalize inB x.sn 1 x.hn = b4
  generalize inB x.gr 0 1099511627776 = b5
  generalize inB x.bu 0 1000 = b6
  revert b0 b1 b2 b3 b4 b5 b6
  decide
set_option maxRecDepth 100000 in
set_option maxHeartbeats 2000000 in
theorem climit_any (x : Lim) (w : World) : Calls Try.prog 46 #[.agg #[.int .i64 x.sg, .int .i64 x.hb, .int .i64 x.sb, .int .i64 x.hn, .int .i64 x.sn, .int .i64 x.gr, .int .i64 x.bu]] w fun e w' => e = .returned (.bool (limB x)) ∧ Below w.heap.size w w' := by
  have hbel := Lib.hid ((Below.refl w.heap.size w).alloc (Nat.le_refl _) (.cells #[.int .i64 x.sg, .int .i64 x.hb, .int .i64 x.sb, .int .i64 x.hn, .int .i64 x.sn, .int .i64 x.gr, .int .i64 x.bu] 48))
  have HW := Lib.hid (lim_ways x)
  rcases HW.out with ⟨h1, hr⟩ | ⟨h1, h2, hr⟩ | ⟨h1, h2, h3, hr⟩ | ⟨h1, h2, h3, h4, hr⟩ | ⟨h1, h2, h3, h4, h5, hr⟩ | ⟨h1, h2, h3, h4, h5, h6, hr⟩ | ⟨h1, h2, h3, h4, h5, h6, h7, hr⟩ | ⟨h1, h2, h3, h4, h5, h6, h7, hr⟩
  all_goals
    rw [hr]
    clear hr
    go_enter Try.func46, Try.ntmps46
    go_wp2_with (go_at_call 100; refine (tin_val _ _ _ _ _ (by with_reducible assumption)).mono ?_; rintro e w' ⟨rfl, rfl⟩)
    go_ret
    exact ⟨rfl, hbel.out⟩
theorem climit_val (x : Lim) (r : Bool) (w : World) (h : limB x = r) : Calls Try.prog 46 #[.agg #[.int .i64 x.sg, .int .i64 x.hb, .int .i64 x.sb, .int .i64 x.hn, .int .i64 x.sn, .int .i64 x.gr, .int .i64 x.bu]] w fun e w' => e = .returned (.bool r) ∧ Below w.heap.size w w' := h ▸ climit_any x w
set_option maxRecDepth 100000 in
set_option maxHeartbeats 2000000 in
theorem rclimit_any (x : Lim) (w : World) : Calls Try.prog 47 #[.agg #[.int .i64 x.sg, .int .i64 x.hb, .int .i64 x.sb, .int .i64 x.hn, .int .i64 x.sn, .int .i64 x.gr, .int .i64 x.bu]] w fun e w' => e = .returned (.bool (limB x)) ∧ Below w.heap.size w w' := by
  have hbel := Lib.hid ((Below.refl w.heap.size w).alloc (Nat.le_refl _) (.cells #[.int .i64 x.sg, .int .i64 x.hb, .int .i64 x.sb, .int .i64 x.hn, .int .i64 x.sn, .int .i64 x.gr, .int .i64 x.bu] 48))
  have HW := Lib.hid (lim_ways x)
  rcases HW.out with ⟨h1, hr⟩ | ⟨h1, h2, hr⟩ | ⟨h1, h2, h3, hr⟩ | ⟨h1, h2, h3, h4, hr⟩ | ⟨h1, h2, h3, h4, h5, hr⟩ | ⟨h1, h2, h3, h4, h5, h6, hr⟩ | ⟨h1, h2, h3, h4, h5, h6, h7, hr⟩ | ⟨h1, h2, h3, h4, h5, h6, h7, hr⟩
  all_goals
    rw [hr]
    clear hr
    go_enter Try.func47, Try.ntmps47
    go_wp2_with (go_at_call 106; refine (rin_val _ _ _ _ _ (by with_reducible assumption)).mono ?_; rintro e w' ⟨rfl, rfl⟩)
    go_ret
    exact ⟨rfl, hbel.out⟩
theorem rclimit_val (x : Lim) (r : Bool) (w : World) (h : limB x = r) : Calls Try.prog 47 #[.agg #[.int .i64 x.sg, .int .i64 x.hb, .int .i64 x.sb, .int .i64 x.hn, .int .i64 x.sn, .int .i64 x.gr, .int .i64 x.bu]] w fun e w' => e = .returned (.bool r) ∧ Below w.heap.size w w' := h ▸ rclimit_any x w

/-- A zero limit. -/
def limZ (x : Lim) : Bool := (x.sg == 0) && ((x.hb == 0) && ((x.sb == 0) && ((x.hn == 0) && ((x.sn == 0) && ((x.gr == 0) && (x.bu == 0))))))
theorem limz_ways (x : Lim) :
    ((x.sg == 0) = false ∧ limZ x = false) ∨
    ((x.sg == 0) = true ∧ (x.hb == 0) = false ∧ limZ x = false) ∨
    ((x.sg == 0) = true ∧ (x.hb == 0) = true ∧ (x.sb == 0) = false ∧ limZ x = false) ∨
    ((x.sg == 0) = true ∧ (x.hb == 0) = true ∧ (x.sb == 0) = true ∧ (x.hn == 0) = false ∧ limZ x = false) ∨
    ((x.sg == 0) = true ∧ (x.hb == 0) = true ∧ (x.sb == 0) = true ∧ (x.hn == 0) = true ∧ (x.sn == 0) = false ∧ limZ x = false) ∨
    ((x.sg == 0) = true ∧ (x.hb == 0) = true ∧ (x.sb == 0) = true ∧ (x.hn == 0) = true ∧ (x.sn == 0) = true ∧ (x.gr == 0) = false ∧ limZ x = false) ∨
    ((x.sg == 0) = true ∧ (x.hb == 0) = true ∧ (x.sb == 0) = true ∧ (x.hn == 0) = true ∧ (x.sn == 0) = true ∧ (x.gr == 0) = true ∧ (x.bu == 0) = false ∧ limZ x = false) ∨
    ((x.sg == 0) = true ∧ (x.hb == 0) = true ∧ (x.sb == 0) = true ∧ (x.hn == 0) = true ∧ (x.sn == 0) = true ∧ (x.gr == 0) = true ∧ (x.bu == 0) = true ∧ limZ x = true) := by
  unfold limZ
  generalize (x.sg == 0) = b0
  generalize (x.hb == 0) = b1
  generalize (x.sb == 0) = b2
  generalize (x.hn == 0) = b3
  generalize (x.sn == 0) = b4
  generalize (x.gr == 0) = b5
  generalize (x.bu == 0) = b6
  revert b0 b1 b2 b3 b4 b5 b6
  decide
set_option maxRecDepth 100000 in
set_option maxHeartbeats 2000000 in
theorem rzero_any (x : Lim) (w : World) : Calls Try.prog 138 #[.agg #[.int .i64 x.sg, .int .i64 x.hb, .int .i64 x.sb, .int .i64 x.hn, .int .i64 x.sn, .int .i64 x.gr, .int .i64 x.bu]] w fun e w' => e = .returned (.bool (limZ x)) ∧ Below w.heap.size w w' := by
  have hbel := Lib.hid ((Below.refl w.heap.size w).alloc (Nat.le_refl _) (.cells #[.int .i64 x.sg, .int .i64 x.hb, .int .i64 x.sb, .int .i64 x.hn, .int .i64 x.sn, .int .i64 x.gr, .int .i64 x.bu] 48))
  have HW := Lib.hid (limz_ways x)
  rcases HW.out with ⟨h1, hr⟩ | ⟨h1, h2, hr⟩ | ⟨h1, h2, h3, hr⟩ | ⟨h1, h2, h3, h4, hr⟩ | ⟨h1, h2, h3, h4, h5, hr⟩ | ⟨h1, h2, h3, h4, h5, h6, hr⟩ | ⟨h1, h2, h3, h4, h5, h6, h7, hr⟩ | ⟨h1, h2, h3, h4, h5, h6, h7, hr⟩
  all_goals
    rw [hr]
    clear hr
    go_enter Try.func138, Try.ntmps138
    go_wp2_with fail
    go_ret
    exact ⟨rfl, hbel.out⟩
theorem rzero_val (x : Lim) (r : Bool) (w : World) (h : limZ x = r) : Calls Try.prog 138 #[.agg #[.int .i64 x.sg, .int .i64 x.hb, .int .i64 x.sb, .int .i64 x.hn, .int .i64 x.sn, .int .i64 x.gr, .int .i64 x.bu]] w fun e w' => e = .returned (.bool r) ∧ Below w.heap.size w w' := h ▸ rzero_any x w
end Go.Proofs.Ytjoplgdcpihmaaa
