/- The document's own check of a head. -/
import Derived.Test.YtjoplgdcpihmaaaHeadB
namespace Go.Proofs.Ytjoplgdcpihmaaa
open Go.RowKit

theorem refentry_val (c : Ent) (r : Bool) (w : World) (h : entB c = r) :
    Calls Try.prog 95 #[.agg #[.int .i64 c.k, .int .i64 c.n, .int .i64 c.p]] w fun e w' => e = .returned (.bool r) ∧ Below w.heap.size w w' := h ▸ refentry_any c w

theorem not_all (l : List Ent) (k : Nat) (h : k < l.length) (hf : entB l[k] = false) : l.all entB = false := by
  rw [List.all_eq_false]
  exact ⟨l[k], List.getElem_mem h, by simp [hf]⟩
set_option maxRecDepth 100000 in
set_option maxHeartbeats 2000000 in
theorem refcheck_any (h : Hd) (v : Value) (l : List Ent) (w : World) (hr : EE.Reads w v l) (hl : l.length * 24 ≤ 140737488351232) :
    Calls Try.prog 33 #[.agg #[.int .i64 h.house, .int .i64 h.gen, .int .i64 h.life, .int .i64 h.seq, .int .i64 h.next, .int .i64 h.clock, .int .i64 h.sb, .int .i64 h.sn, v]] w
      fun e w' => e = .returned (.bool (checkB h l)) ∧ Below w.heap.size w w' := by
  have hr' := hr
  obtain ⟨A, c, rfl, hc, -⟩ := hr'
  have HR := Lib.hid hr
  clear hr
  have HW := Lib.hid (nums_ways h)
  have HB0 : Hid (Below w.heap.size w (w.alloc (.cells #[.int .i64 h.house, .int .i64 h.gen, .int .i64 h.life, .int .i64 h.seq, .int .i64 h.next, .int .i64 h.clock, .int .i64 h.sb, .int .i64 h.sn, .slice A l.length c] 24))) := (Below.refl _ _).alloc (Nat.le_refl _) _
  have HX0 : Hid ((w.alloc (.cells #[.int .i64 h.house, .int .i64 h.gen, .int .i64 h.life, .int .i64 h.seq, .int .i64 h.next, .int .i64 h.clock, .int .i64 h.sb, .int .i64 h.sn, .slice A l.length c] 24)).heap[w.heap.size]? = some (.cells #[.int .i64 h.house, .int .i64 h.gen, .int .i64 h.life, .int .i64 h.seq, .int .i64 h.next, .int .i64 h.clock, .int .i64 h.sb, .int .i64 h.sn, .slice A l.length c] 24)) := heap_alloc_new w _
  go_enter Try.func33, Try.ntmps33
  go_wp2
  go_loopw [3] (fun i wr => ∃ k : Nat, k ≤ l.length ∧ k ≤ 25 ∧ i = .int .i64 k ∧ (l.take k).all entB = true ∧ Below w.heap.size w wr ∧ wr.heap[w.heap.size]? = some (.cells #[.int .i64 h.house, .int .i64 h.gen, .int .i64 h.life, .int .i64 h.seq, .int .i64 h.next, .int .i64 h.clock, .int .i64 h.sb, .int .i64 h.sn, .slice A l.length c] 24)) (fun i _ => l.length - (intOf i).toNat)
  case atStart => exact ⟨0, by omega, by omega, rfl, by simp, HB0.out, HX0.out⟩
  case round =>
    obtain ⟨k, hk, hk5, rfl, hall, hb, hx⟩ := hrel
    have HB := Lib.hid hb
    have HA := Lib.hid hall
    have c8 := cell_of_row _ _ 8 _ _ _ hx
    clear hb hall
    have hxs : Hid (wr.heap[w.heap.size]? = some (.cells #[.int .i64 h.house, .int .i64 h.gen, .int .i64 h.life, .int .i64 h.seq, .int .i64 h.next, .int .i64 h.clock, .int .i64 h.sb, .int .i64 h.sn, .slice A l.length c] 24)) := hx
    have hlt0 : w.heap.size < wr.heap.size := (Array.getElem?_eq_some_iff.1 hx).1
    clear hx
    by_cases hlt : k < l.length ∧ k ≤ 24
    · obtain ⟨hlt, h24⟩ := hlt
      have HS := Lib.hid (all_snoc l k l[k] (List.getElem?_eq_getElem hlt))
      have HNA := Lib.hid (not_all l k hlt)
      obtain ⟨b, o, c', hv, hbw, c0, c1, c2⟩ := EE_at (HR.out.below HB.out) k hlt
      simp only [Value.slice.injEq] at hv
      obtain ⟨rfl, -, rfl⟩ := hv
      generalize l[k] = x at *
      cases hx : entB x with
      | false =>
        go_wp2_with (go_at_call 95; refine (refentry_val x _ _ hx).mono ?_; rintro e w' ⟨rfl, hb1⟩; have HB1 := Lib.hid hb1; clear hb1)
        go_ret
        exact ⟨ret_bool (by rw [checkB, HNA.out hx, Bool.and_false]), HB.out.trans (HB1.out.mono HB.out.size)⟩
      | true =>
        have HX := Lib.hid hx
        go_wp2_with (go_at_call 95; refine (refentry_val x _ _ HX.out).mono ?_; rintro e w' ⟨rfl, hb1⟩; have HB1 := Lib.hid hb1; clear hb1)
        go_roundw
        case rel => exact ⟨k + 1, by omega, by omega, by go_num, by rw [HS.out, HA.out, HX.out]; rfl, HB.out.trans (HB1.out.mono HB.out.size), by rw [HB1.out.block _ hlt0]; exact hxs.out⟩
        case measure => simp only [intOf]; omega
    · have c0 := cell_of_row _ _ 0 _ _ _ hxs.out
      have c1 := cell_of_row _ _ 1 _ _ _ hxs.out
      have c2 := cell_of_row _ _ 2 _ _ _ hxs.out
      have c3 := cell_of_row _ _ 3 _ _ _ hxs.out
      have c4 := cell_of_row _ _ 4 _ _ _ hxs.out
      have c5 := cell_of_row _ _ 5 _ _ _ hxs.out
      have c6 := cell_of_row _ _ 6 _ _ _ hxs.out
      have c7 := cell_of_row _ _ 7 _ _ _ hxs.out
      by_cases hlen : l.length ≤ 24
      · obtain rfl : k = l.length := by omega
        have hkk : ¬ ((l.length : Int) < l.length) := by omega
        have HC : Hid (checkB h l = numsB h) := by
          unfold Hid checkB
          rw [List.take_of_length_le (Nat.le_refl _)] at HA
          rw [HA.out, decide_eq_true (by omega)]; simp
        rcases HW.out with ⟨h1, hr⟩ | ⟨h1, h2, hr⟩ | ⟨h1, h2, h3, hr⟩ | ⟨h1, h2, h3, h4, hr⟩ | ⟨h1, h2, h3, h4, h5, hr⟩ | ⟨h1, h2, h3, h4, h5, h6, hr⟩ | ⟨h1, h2, h3, h4, h5, h6, h7, hr⟩ | ⟨h1, h2, h3, h4, h5, h6, h7, h8, hr⟩ | ⟨h1, h2, h3, h4, h5, h6, h7, h8, hr⟩
        all_goals
          have HN := Lib.hid hr
          clear hr HW
          go_wp2_with (go_at_call 96; refine (refin_val _ _ _ _ _ (by with_reducible assumption)).mono ?_; rintro e w' ⟨rfl, rfl⟩)
          go_ret
          exact ⟨ret_bool (by rw [HC.out, HN.out]), HB.out⟩
      · have HC : Hid (checkB h l = false) := by
          unfold Hid checkB
          rw [decide_eq_false (by omega)]; simp
        have hk24 : k = 25 := by omega
        have e1 : decide ((k : Int) ≤ 24) = false := decide_eq_false (by omega)
        clear hk24
        by_cases hk1 : k < l.length
        · go_wp2
          go_ret
          exact ⟨ret_bool (by rw [HC.out]), HB.out⟩
        · go_wp2
          go_ret
          exact ⟨ret_bool (by rw [HC.out]), HB.out⟩
end Go.Proofs.Ytjoplgdcpihmaaa
