/- The sum of a chunk (head.Sum and the document's own), head.Put. -/
import Derived.Test.YtjoplgdcpihmaaaHeadE
import Derived.Test.YtjoplgdcpihmaaaHeadB
import Derived.Test.YtjoplgdcpihmaaaCrc
namespace Go.Proofs.Ytjoplgdcpihmaaa
open Go.RowKit

/-- The sum of a head's block and what stands behind. -/
def sumOf (b body : List UInt8) : Int := vU (crcMore (crcMore 0 (b.take 252)) body)
theorem sumOf_of (b body : List UInt8) : sumOf b body = crcOf (b.take 252 ++ body) := by
  unfold sumOf crcOf; rw [crcMore_append]
section
attribute [local go_sem] bs_size bs_extract bs_append
set_option maxRecDepth 100000 in
set_option maxHeartbeats 1000000 in
theorem sum_any (b body : List UInt8) (w : World) (hb : b.length ≤ 140737488351232) (hs : body.length ≤ 140737488351232) :
    Calls Try.prog 35 #[.string (bs b), .string (bs body)] w fun e w' => e = .returned (.int .i64 (sumOf b body)) ∧ Below w.heap.size w w' := by
  have hu := vU_bd (crcMore (crcMore 0 (b.take 252)) body)
  have HP : Hid (sumOf b body = vU (crcMore (crcMore 0 (b.take 252)) body)) := rfl
  by_cases h : 252 < b.length
  · have ht : (b.drop 0).take (252 - 0) = b.take 252 := rfl
    have hx : (bs b).extract 0 252 = bs (b.take 252) := bs_extract b 0 252
    have hl : (b.take 252).length ≤ 140737488351232 := by rw [List.length_take]; omega
    clear ht
    generalize b.take 252 = c at *
    go_enter Try.func35, Try.ntmps35
    go_wp2_with fail
    refine (crcOf_any c _ hl).mono ?_
    rintro e w1 ⟨rfl, hb1⟩
    have HB1 := Lib.hid hb1
    clear hb1
    go_wp2_with fail
    refine (crcMore_any (crcMore 0 c) body _ hs).mono ?_
    rintro e w2 ⟨rfl, hb2⟩
    have HB2 := Lib.hid hb2
    clear hb2
    generalize crcMore (crcMore 0 c) body = z at *
    go_wp2
    go_ret
    exact ⟨ret_int HP.out.symm, HB1.out.trans (HB2.out.mono HB1.out.size)⟩
  · have hx : (bs b).extract 0 b.length = bs (b.take 252) := by rw [bs_extract, List.take_of_length_le (by simp), List.take_of_length_le (by omega)]; rfl
    have hl : (b.take 252).length ≤ 140737488351232 := by rw [List.length_take]; omega
    generalize b.take 252 = c at *
    go_enter Try.func35, Try.ntmps35
    go_wp2_with fail
    refine (crcOf_any c _ hl).mono ?_
    rintro e w1 ⟨rfl, hb1⟩
    have HB1 := Lib.hid hb1
    clear hb1
    go_wp2_with fail
    refine (crcMore_any (crcMore 0 c) body _ hs).mono ?_
    rintro e w2 ⟨rfl, hb2⟩
    have HB2 := Lib.hid hb2
    clear hb2
    generalize crcMore (crcMore 0 c) body = z at *
    go_wp2
    go_ret
    exact ⟨ret_int HP.out.symm, HB1.out.trans (HB2.out.mono HB1.out.size)⟩
set_option maxRecDepth 100000 in
set_option maxHeartbeats 1000000 in
theorem refsum_any (b body : List UInt8) (w : World) (hb : b.length ≤ 140737488351232) (hs : body.length ≤ 140737488000000) :
    Calls Try.prog 36 #[.string (bs b), .string (bs body)] w fun e w' => e = .returned (.int .i64 (sumOf b body)) ∧ w = w' := by
  have HP : Hid (sumOf b body = crcOf (b.take 252 ++ body)) := sumOf_of b body
  have hu : 0 ≤ crcOf (b.take 252 ++ body) ∧ crcOf (b.take 252 ++ body) ≤ 4294967295 := vU_bd _
  by_cases h : 252 < b.length
  · have hx : (bs b).extract 0 252 = bs (b.take 252) := bs_extract b 0 252
    have hl : (b.take 252).length ≤ 252 := by rw [List.length_take]; omega
    have hl2 : (b.take 252 ++ body).length ≤ 140737488351232 := by rw [List.length_append]; omega
    generalize b.take 252 = c at *
    go_enter Try.func36, Try.ntmps36
    go_wp2_with fail
    refine (refOf_any (c ++ body) _ hl2).mono ?_
    rintro e w1 ⟨rfl, rfl⟩
    generalize crcOf (c ++ body) = x at *
    go_wp2
    go_ret
    exact ⟨ret_int HP.out.symm, rfl⟩
  · have hx : (bs b).extract 0 b.length = bs (b.take 252) := by rw [bs_extract, List.take_of_length_le (by simp), List.take_of_length_le (by omega)]; rfl
    have hl : (b.take 252).length ≤ 252 := by rw [List.length_take]; omega
    have hl2 : (b.take 252 ++ body).length ≤ 140737488351232 := by rw [List.length_append]; omega
    generalize b.take 252 = c at *
    go_enter Try.func36, Try.ntmps36
    go_wp2_with fail
    refine (refOf_any (c ++ body) _ hl2).mono ?_
    rintro e w1 ⟨rfl, rfl⟩
    generalize crcOf (c ++ body) = x at *
    go_wp2
    go_ret
    exact ⟨ret_int HP.out.symm, rfl⟩
end

/-- A head's block with the sum of it and of what stands behind. -/
def headPut (h : Hd) (l : List Ent) (body : List UInt8) : Option (List UInt8) :=
  if checkB h l = true ∧ body.length = l.length * 256 then some (headBytes h l ++ putB (sumOf (headBytes h l) body) 4) else none
theorem headBytes_length (h : Hd) (l : List Ent) (hl : l.length ≤ 24) : (headBytes h l).length = 252 := by
  unfold headBytes padTo
  rw [List.length_append, List.length_replicate, List.length_append, numBytes_length, entsBytes_length]; omega
theorem checkB_len {h : Hd} {l : List Ent} (hc : checkB h l = true) : l.length ≤ 24 := by
  unfold checkB at hc
  simp only [Bool.and_eq_true, decide_eq_true_eq] at hc
  omega
theorem check_val (h : Hd) (v : Value) (l : List Ent) (r : Bool) (w : World) (hr : EE.Reads w v l) (hl : l.length * 24 ≤ 140737488351232) (hc : checkB h l = r) :
    Calls Try.prog 32 #[.agg #[.int .i64 h.house, .int .i64 h.gen, .int .i64 h.life, .int .i64 h.seq, .int .i64 h.next, .int .i64 h.clock, .int .i64 h.sb, .int .i64 h.sn, v]] w
      fun e w' => e = .returned (.bool r) ∧ Below w.heap.size w w' := hc ▸ check_any h v l w hr hl

section
attribute [local go_sem] bs_size bs_append
set_option maxRecDepth 100000 in
set_option maxHeartbeats 1000000 in
theorem headPut_any (h : Hd) (v : Value) (l : List Ent) (body : List UInt8) (w : World) (hr : EE.Reads w v l) (hl : l.length * 24 ≤ 140737488351232) (hs : body.length ≤ 140737488351232) :
    Calls Try.prog 27 #[.agg #[.int .i64 h.house, .int .i64 h.gen, .int .i64 h.life, .int .i64 h.seq, .int .i64 h.next, .int .i64 h.clock, .int .i64 h.sb, .int .i64 h.sn, v], .string (bs body)] w
      fun e w' => e = .returned (.tuple #[.string (bs ((headPut h l body).getD [])), .bool (headPut h l body).isSome]) ∧ Below w.heap.size w w' := by
  have hr' := hr
  obtain ⟨A, c, rfl, hc, -⟩ := hr'
  have HW : Hid (w.alloc (.cells #[.int .i64 h.house, .int .i64 h.gen, .int .i64 h.life, .int .i64 h.seq, .int .i64 h.next, .int .i64 h.clock, .int .i64 h.sb, .int .i64 h.sn, .slice A l.length c] 24) = w.alloc (.cells #[.int .i64 h.house, .int .i64 h.gen, .int .i64 h.life, .int .i64 h.seq, .int .i64 h.next, .int .i64 h.clock, .int .i64 h.sb, .int .i64 h.sn, .slice A l.length c] 24)) := rfl
  have HB0 : Hid (Below w.heap.size w (w.alloc (.cells #[.int .i64 h.house, .int .i64 h.gen, .int .i64 h.life, .int .i64 h.seq, .int .i64 h.next, .int .i64 h.clock, .int .i64 h.sb, .int .i64 h.sn, .slice A l.length c] 24))) := (Below.refl _ _).alloc (Nat.le_refl _) _
  have HX0 := Lib.hid (heap_alloc_new w (.cells #[.int .i64 h.house, .int .i64 h.gen, .int .i64 h.life, .int .i64 h.seq, .int .i64 h.next, .int .i64 h.clock, .int .i64 h.sb, .int .i64 h.sn, .slice A l.length c] 24))
  have HR := Lib.hid hr
  clear hr HW
  cases hcb : checkB h l with
  | false =>
    have HF : Hid (headPut h l body = none) := by unfold Hid headPut; rw [hcb]; simp
    have HC := Lib.hid hcb
    clear hcb
    go_enter Try.func27, Try.ntmps27
    go_wp2_with (go_at_call 32; refine (check_val h _ l false _ (HR.out.below HB0.out) hl HC.out).mono ?_; rintro e w' ⟨rfl, hb⟩; have HB1 := Lib.hid hb; clear hb)
    go_ret2
    exact ⟨by rw [HF.out]; rfl, HB0.out.trans (HB1.out.mono HB0.out.size)⟩
  | true =>
    have HC := Lib.hid hcb
    have h24 := checkB_len hcb
    have HL := Lib.hid (headBytes_length h l h24)
    clear hcb
    go_enter Try.func27, Try.ntmps27
    go_wp2_with fail
    refine (check_val h _ l true _ (HR.out.below HB0.out) hl HC.out).mono ?_
    rintro e w1 ⟨rfl, hb⟩
    have HB1 : Hid (Below w.heap.size w w1) := HB0.out.trans (hb.mono HB0.out.size)
    have hx1 := (hb.block w.heap.size (by simp)).trans HX0.out
    have HX1 := Lib.hid hx1
    have c0 := cell_of_row _ _ 0 _ _ _ hx1
    have c1 := cell_of_row _ _ 1 _ _ _ hx1
    have c2 := cell_of_row _ _ 2 _ _ _ hx1
    have c3 := cell_of_row _ _ 3 _ _ _ hx1
    have c4 := cell_of_row _ _ 4 _ _ _ hx1
    have c5 := cell_of_row _ _ 5 _ _ _ hx1
    have c6 := cell_of_row _ _ 6 _ _ _ hx1
    have c7 := cell_of_row _ _ 7 _ _ _ hx1
    have c8 := cell_of_row _ _ 8 _ _ _ hx1
    clear hb hx1
    by_cases hlen : body.length = l.length * 256
    · have hle : (((body.length : Int)) != (l.length : Int) * 256) = false := by rw [bne_eq_false_iff_eq]; omega
      have HF : Hid (headPut h l body = some (headBytes h l ++ putB (sumOf (headBytes h l) body) 4)) := by unfold Hid headPut; rw [if_pos ⟨HC.out, hlen⟩]
      clear hlen
      go_wp2_with fail
      refine (bytes_any h _ l _ (HR.out.below HB1.out) h24).mono ?_
      rintro e w2 ⟨rfl, hb2⟩
      have HB2 := Lib.hid hb2
      clear hb2 c0 c1 c2 c3 c4 c5 c6 c7 c8
      generalize headBytes h l = s at *
      have hsl := HL.out
      go_wp2_with fail
      refine (sum_any s body _ (by omega) hs).mono ?_
      rintro e w3 ⟨rfl, hb3⟩
      have HB3 := Lib.hid hb3
      clear hb3
      generalize sumOf s body = x at *
      go_wp2_with fail
      refine (binPut_any x 4 _).mono ?_
      rintro e w4 ⟨rfl, hb4⟩
      have HB4 := Lib.hid hb4
      have hpl : (putB x 4).length ≤ 7 := by rw [putB_length]; omega
      clear hb4
      generalize putB x 4 = y at *
      go_wp2
      go_ret2
      refine ⟨by rw [HF.out]; rfl, ?_⟩
      have h2 := HB1.out.trans (HB2.out.mono HB1.out.size)
      have h3 := h2.trans (HB3.out.mono h2.size)
      exact h3.trans (HB4.out.mono h3.size)
    · have hle : (((body.length : Int)) != (l.length : Int) * 256) = true := by rw [bne_iff_ne]; omega
      have HF : Hid (headPut h l body = none) := by unfold Hid headPut; rw [if_neg (fun hh => hlen hh.2)]
      clear hlen
      go_wp2
      go_ret2
      exact ⟨by rw [HF.out]; rfl, HB1.out⟩
end
end Go.Proofs.Ytjoplgdcpihmaaa
