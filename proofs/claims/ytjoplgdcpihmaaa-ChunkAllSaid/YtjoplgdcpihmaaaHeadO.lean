/- Same over equal heads is true. -/
import Derived.Test.YtjoplgdcpihmaaaHeadN
import Derived.BigQuiet
import Derived.Deep.QuietTactic
namespace Go.Proofs.Ytjoplgdcpihmaaa
open Go.RowKit
set_option maxRecDepth 100000 in
set_option maxHeartbeats 2000000 in
theorem same_any (h : Hd) (v v2 : Value) (l : List Ent) (w : World) (hr : EE.Reads w v l) (hr2 : EE.Reads w v2 l) (hl : l.length ≤ 100000) :
    Calls Try.prog 34 #[.agg #[.int .i64 h.house, .int .i64 h.gen, .int .i64 h.life, .int .i64 h.seq, .int .i64 h.next, .int .i64 h.clock, .int .i64 h.sb, .int .i64 h.sn, v], .agg #[.int .i64 h.house, .int .i64 h.gen, .int .i64 h.life, .int .i64 h.seq, .int .i64 h.next, .int .i64 h.clock, .int .i64 h.sb, .int .i64 h.sn, v2]] w
      fun e w' => e = .returned (.bool true) ∧ Below w.heap.size w w' := by
  have hr' := hr
  obtain ⟨A, c, rfl, hc, -⟩ := hr'
  have hr' := hr2
  obtain ⟨A2, cc2, rfl, hcc2, -⟩ := hr'
  have HR := Lib.hid hr
  have HR2 := Lib.hid hr2
  clear hr hr2
  have HB0 : Hid (Below w.heap.size w ((w.alloc (.cells #[.int .i64 h.house, .int .i64 h.gen, .int .i64 h.life, .int .i64 h.seq, .int .i64 h.next, .int .i64 h.clock, .int .i64 h.sb, .int .i64 h.sn, .slice A l.length c] 24)).alloc (.cells #[.int .i64 h.house, .int .i64 h.gen, .int .i64 h.life, .int .i64 h.seq, .int .i64 h.next, .int .i64 h.clock, .int .i64 h.sb, .int .i64 h.sn, .slice A2 l.length cc2] 24))) := ((Below.refl _ _).alloc (Nat.le_refl _) _).alloc (by simp) _
  have HX := Lib.hid (heap_first w (.cells #[.int .i64 h.house, .int .i64 h.gen, .int .i64 h.life, .int .i64 h.seq, .int .i64 h.next, .int .i64 h.clock, .int .i64 h.sb, .int .i64 h.sn, .slice A l.length c] 24) (.cells #[.int .i64 h.house, .int .i64 h.gen, .int .i64 h.life, .int .i64 h.seq, .int .i64 h.next, .int .i64 h.clock, .int .i64 h.sb, .int .i64 h.sn, .slice A2 l.length cc2] 24))
  have HY := Lib.hid (heap_next w (.cells #[.int .i64 h.house, .int .i64 h.gen, .int .i64 h.life, .int .i64 h.seq, .int .i64 h.next, .int .i64 h.clock, .int .i64 h.sb, .int .i64 h.sn, .slice A l.length c] 24) (.cells #[.int .i64 h.house, .int .i64 h.gen, .int .i64 h.life, .int .i64 h.seq, .int .i64 h.next, .int .i64 h.clock, .int .i64 h.sb, .int .i64 h.sn, .slice A2 l.length cc2] 24))
  go_enter Try.func34, Try.ntmps34
  go_wp2
  go_loopw [5] (fun i wr => ∃ k : Nat, k ≤ l.length ∧ i = .int .i64 k ∧ Below w.heap.size w wr ∧ wr.heap[w.heap.size]? = some (.cells #[.int .i64 h.house, .int .i64 h.gen, .int .i64 h.life, .int .i64 h.seq, .int .i64 h.next, .int .i64 h.clock, .int .i64 h.sb, .int .i64 h.sn, .slice A l.length c] 24) ∧ wr.heap[w.heap.size + 1]? = some (.cells #[.int .i64 h.house, .int .i64 h.gen, .int .i64 h.life, .int .i64 h.seq, .int .i64 h.next, .int .i64 h.clock, .int .i64 h.sb, .int .i64 h.sn, .slice A2 l.length cc2] 24)) (fun i _ => l.length - (intOf i).toNat)
  case atStart => exact ⟨0, by omega, rfl, HB0.out, HX.out, HY.out⟩
  case round =>
    obtain ⟨k, hk, rfl, hb1, hx1, hy1⟩ := hrel
    have HB1 := Lib.hid hb1
    have c8 := cell_of_row _ _ 8 _ _ _ hx1
    have d8 := cell_of_row _ _ 8 _ _ _ hy1
    by_cases hlt : k < l.length
    · obtain ⟨b, o, c', hv, hbw, e0, e1, e2⟩ := EE_at (HR.out.below HB1.out) k hlt
      obtain ⟨b2, o2, c2', hv2, hbw2, f0, f1, f2⟩ := EE_at (HR2.out.below HB1.out) k hlt
      simp only [Value.slice.injEq] at hv hv2
      obtain ⟨rfl, -, rfl⟩ := hv
      obtain ⟨rfl, -, rfl⟩ := hv2
      generalize l[k] = x at *
      have i0 : (0 : Int) ≤ (k : Int) := by omega
      have i1 : (k : Int) < (l.length : Int) := by omega
      go_wp2

      go_quiet (fail)
      go_wp2
      go_roundw
      case rel => exact ⟨k + 1, by omega, by go_num, ⟨HB1.out.os, HB1.out.tape, HB1.out.output, HB1.out.size, HB1.out.block⟩, hx1, hy1⟩
      case measure => simp only [intOf]; omega
    · go_wp2
      go_ret
      exact ⟨rfl, HB1.out⟩
end Go.Proofs.Ytjoplgdcpihmaaa
