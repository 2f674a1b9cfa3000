/- The document's own head with its sum (beguinageref08.Put). -/
import Derived.Test.YtjoplgdcpihmaaaHeadG
import Derived.Test.YtjoplgdcpihmaaaHeadC
namespace Go.Proofs.Ytjoplgdcpihmaaa
open Go.RowKit

theorem refcheck_val (h : Hd) (v : Value) (l : List Ent) (r : Bool) (w : World) (hr : EE.Reads w v l) (hl : l.length * 24 ≤ 140737488351232) (hc : checkB h l = r) :
    Calls Try.prog 33 #[.agg #[.int .i64 h.house, .int .i64 h.gen, .int .i64 h.life, .int .i64 h.seq, .int .i64 h.next, .int .i64 h.clock, .int .i64 h.sb, .int .i64 h.sn, v]] w
      fun e w' => e = .returned (.bool r) ∧ Below w.heap.size w w' := hc ▸ refcheck_any h v l w hr hl

section
attribute [local go_sem] bs_size bs_append
set_option maxRecDepth 100000 in
set_option maxHeartbeats 1000000 in
theorem refheadPut_any (h : Hd) (v : Value) (l : List Ent) (body : List UInt8) (w : World) (hr : EE.Reads w v l) (hl : l.length * 24 ≤ 140737488351232) (hs : body.length ≤ 140737488000000) :
    Calls Try.prog 29 #[.agg #[.int .i64 h.house, .int .i64 h.gen, .int .i64 h.life, .int .i64 h.seq, .int .i64 h.next, .int .i64 h.clock, .int .i64 h.sb, .int .i64 h.sn, v], .string (bs body)] w
      fun e w' => e = .returned (.tuple #[.string (bs ((headPut h l body).getD [])), .bool (headPut h l body).isSome]) ∧ Below w.heap.size w w' := by
  have hr' := hr
  obtain ⟨A, c, rfl, hc, -⟩ := hr'
  have HW : Hid (w.alloc (.cells #[.int .i64 h.house, .int .i64 h.gen, .int .i64 h.life, .int .i64 h.seq, .int .i64 h.next, .int .i64 h.clock, .int .i64 h.sb, .int .i64 h.sn, .slice A l.length c] 24) = w.alloc (.cells #[.int .i64 h.house, .int .i64 h.gen, .int .i64 h.life, .int .i64 h.seq, .int .i64 h.next, .int .i64 h.clock, .int .i64 h.sb, .int .i64 h.sn, .slice A l.length c] 24)) := rfl
  have HB0 : Hid (Below w.heap.size w (w.alloc (.cells #[.int .i64 h.house, .int .i64 h.gen, .int .i64 h.life, .int .i64 h.seq, .int .i64 h.next, .int .i64 h.clock, .int .i64 h.sb, .int .i64 h.sn, .slice A l.length c] 24))) := (Below.refl _ _).alloc (Nat.le_refl _) _
  have HX0 := Lib.hid (heap_alloc_new w (.cells #[.int .i64 h.house, .int .i64 h.gen, .int .i64 h.life, .int .i64 h.seq, .int .i64 h.next, .int .i64 h.clock, .int .i64 h.sb, .int .i64 h.sn, .slice A l.length c] 24))
  have HR := Lib.hid hr
  clear hr HW
  cases hcb : checkB h l with
  | false =>
    have HF : Hid (headPut h l body = none) := by unfold Hid headPut; rw [hcb]; simp
    have HC := Lib.hid hcb
    clear hcb
    go_enter Try.func29, Try.ntmps29
    go_wp2_with (go_at_call 33; refine (refcheck_val h _ l false _ (HR.out.below HB0.out) hl HC.out).mono ?_; rintro e w' ⟨rfl, hb⟩; have HB1 := Lib.hid hb; clear hb)
    go_ret2
    exact ⟨by rw [HF.out]; rfl, HB0.out.trans (HB1.out.mono HB0.out.size)⟩
  | true =>
    have HC := Lib.hid hcb
    have h24 := checkB_len hcb
    have HL := Lib.hid (headBytes_length h l h24)
    clear hcb
    go_enter Try.func29, Try.ntmps29
    go_wp2_with fail
    refine (refcheck_val h _ l true _ (HR.out.below HB0.out) hl HC.out).mono ?_
    rintro e w1 ⟨rfl, hb⟩
    have HB1 : Hid (Below w.heap.size w w1) := HB0.out.trans (hb.mono HB0.out.size)
    have hx1 := (hb.block w.heap.size (by simp)).trans HX0.out
    have HX1 := Lib.hid hx1
    have c0 := cell_of_row _ _ 0 _ _ _ hx1
    have c1 := cell_of_row _ _ 1 _ _ _ hx1
    have c2 := cell_of_row _ _ 2 _ _ _ hx1
    have c3 := cell_of_row _ _ 3 _ _ _ hx1
    have c4 := cell_of_row _ _ 4 _ _ _ hx1
    have c5 := cell_of_row _ _ 5 _ _ _ hx1
    have c6 := cell_of_row _ _ 6 _ _ _ hx1
    have c7 := cell_of_row _ _ 7 _ _ _ hx1
    have c8 := cell_of_row _ _ 8 _ _ _ hx1
    clear hb hx1
    by_cases hlen : body.length = l.length * 256
    · have hle : (((body.length : Int)) != (l.length : Int) * 256) = false := by rw [bne_eq_false_iff_eq]; omega
      have HF : Hid (headPut h l body = some (headBytes h l ++ putB (sumOf (headBytes h l) body) 4)) := by unfold Hid headPut; rw [if_pos ⟨HC.out, hlen⟩]
      clear hlen
      go_wp2_with fail
      refine (front_any h _ l _ (HR.out.below HB1.out) h24).mono ?_
      rintro e w2 ⟨rfl, hb2⟩
      have HB2 := Lib.hid hb2
      clear hb2 c0 c1 c2 c3 c4 c5 c6 c7 c8
      generalize headBytes h l = s at *
      have hsl := HL.out
      go_wp2_with fail
      refine (refsum_any s body _ (by omega) hs).mono ?_
      rintro e w3 ⟨rfl, rfl⟩
      generalize sumOf s body = x at *
      go_wp2_with fail
      refine (refPut_any x 4 _ (by decide)).mono ?_
      rintro e w4 ⟨rfl, hb4⟩
      have HB4 := Lib.hid hb4
      have hpl : (putB x 4).length ≤ 7 := by rw [putB_length]; omega
      clear hb4
      generalize putB x 4 = y at *
      go_wp2
      go_ret2
      refine ⟨by rw [HF.out]; rfl, ?_⟩
      have h2 := HB1.out.trans (HB2.out.mono HB1.out.size)
      exact h2.trans (HB4.out.mono h2.size)
    · have hle : (((body.length : Int)) != (l.length : Int) * 256) = true := by rw [bne_iff_ne]; omega
      have HF : Hid (headPut h l body = none) := by unfold Hid headPut; rw [if_neg (fun hh => hlen hh.2)]
      clear hlen
      go_wp2
      go_ret2
      exact ⟨by rw [HF.out]; rfl, HB1.out⟩
end
end Go.Proofs.Ytjoplgdcpihmaaa
