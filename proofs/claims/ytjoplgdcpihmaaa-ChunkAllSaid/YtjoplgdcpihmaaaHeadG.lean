/- The document's own bytes of a head (beguinageref08.front). -/
import Derived.Test.YtjoplgdcpihmaaaHeadF
import Derived.Deep.RegionHeld3
import Derived.Deep.DrawnRows
namespace Go.Proofs.Ytjoplgdcpihmaaa
open Go.RowKit
attribute [local go_sem ↓] Go.wp_at_zero Go.wp_at_succ

section
attribute [local go_sem] bs_size bs_append List.length_append
theorem mark_bs : ByteArray.mk #[66, 71, 67, 72] = bs [66, 71, 67, 72] := rfl
theorem add_bs (a b : List UInt8) (w : World) (h : a.length + b.length ≤ 9223372036854775807) : (Op.stringOp .add (bs a) (bs b)).run Try.prog w = .ok (.string (bs (a ++ b))) w := by
  rw [run_string_add_sum w _ _ (by rw [bs_size, bs_size]; exact h), bs_append]
set_option maxRecDepth 100000 in
set_option maxHeartbeats 4000000 in
theorem front_any (h : Hd) (v : Value) (l : List Ent) (w : World) (hr : EE.Reads w v l) (hl : l.length ≤ 24) :
    Calls Try.prog 89 #[.agg #[.int .i64 h.house, .int .i64 h.gen, .int .i64 h.life, .int .i64 h.seq, .int .i64 h.next, .int .i64 h.clock, .int .i64 h.sb, .int .i64 h.sn, v]] w
      fun e w' => e = .returned (.string (bs (headBytes h l))) ∧ Below w.heap.size w w' := by
  have hr' := hr
  obtain ⟨A, c, rfl, hc, -⟩ := hr'
  have HR := Lib.hid hr
  clear hr
  have HB : Hid (Below w.heap.size w (w.alloc (.cells #[.int .i64 h.house, .int .i64 h.gen, .int .i64 h.life, .int .i64 h.seq, .int .i64 h.next, .int .i64 h.clock, .int .i64 h.sb, .int .i64 h.sn, .slice A l.length c] 24))) := (Below.refl _ _).alloc (Nat.le_refl _) _
  have HX := Lib.hid (heap_alloc_new w (.cells #[.int .i64 h.house, .int .i64 h.gen, .int .i64 h.life, .int .i64 h.seq, .int .i64 h.next, .int .i64 h.clock, .int .i64 h.sb, .int .i64 h.sn, .slice A l.length c] 24))
  have c0 : True := trivial
  have c1 : True := trivial
  have c2 : True := trivial
  have c3 : True := trivial
  have c4 : True := trivial
  have c5 : True := trivial
  have c6 : True := trivial
  have c7 : True := trivial
  have c8 : True := trivial
  have l1 : ∀ v : Int, (putB v 1).length = 1 := fun v => by rw [putB_length]; rfl
  have l2 : ∀ v : Int, (putB v 2).length = 2 := fun v => by rw [putB_length]; rfl
  have l3 : ∀ v : Int, (putB v 3).length = 3 := fun v => by rw [putB_length]; rfl
  have l6 : ∀ v : Int, (putB v 6).length = 6 := fun v => by rw [putB_length]; rfl
  have hmk := mark_bs
  go_enter Try.func89, Try.ntmps89
  go_upto_region 1 with fail
  go_cut [3] (fun v3 wc => v3 = .string (bs (numBytes h l.length)) ∧ Below w.heap.size w wc ∧ wc.heap[w.heap.size]? = some (.cells #[.int .i64 h.house, .int .i64 h.gen, .int .i64 h.life, .int .i64 h.seq, .int .i64 h.next, .int .i64 h.clock, .int .i64 h.sb, .int .i64 h.sn, .slice A l.length c] 24 (0, 0)))
  case first =>
    go_region_held3 (fun w' => w'.cell? ⟨w.heap.size, 0, none⟩ = some (.int .i64 h.house) ∧ w'.cell? ⟨w.heap.size, 1, none⟩ = some (.int .i64 h.gen) ∧ w'.cell? ⟨w.heap.size, 2, none⟩ = some (.int .i64 h.life) ∧ w'.cell? ⟨w.heap.size, 3, none⟩ = some (.int .i64 h.seq) ∧ w'.cell? ⟨w.heap.size, 4, none⟩ = some (.int .i64 h.next) ∧ w'.cell? ⟨w.heap.size, 5, none⟩ = some (.int .i64 h.clock) ∧ w'.cell? ⟨w.heap.size, 6, none⟩ = some (.int .i64 h.sb) ∧ w'.cell? ⟨w.heap.size, 7, none⟩ = some (.int .i64 h.sn) ∧ w'.cell? ⟨w.heap.size, 8, none⟩ = some (.slice A l.length c)) (go_keep)
      ((go_at_call 90; refine (refPut_any _ _ _ (by decide)).mono ?_; rintro e w1 ⟨rfl, hb⟩; have hb1 := HB.out.trans (by first | exact hb.mono HB.out.size | exact (below_of_drew hb).mono HB.out.size); have hx1 := (hb.block _ (lt_of_block HX.out)).trans HX.out; clear HX HB c0 c1 c2 c3 c4 c5 c6 c7 c8; have HX := Lib.hid hx1; have HB := Lib.hid hb1; have c0 := cell_of_row _ _ 0 _ _ _ hx1; have c1 := cell_of_row _ _ 1 _ _ _ hx1; have c2 := cell_of_row _ _ 2 _ _ _ hx1; have c3 := cell_of_row _ _ 3 _ _ _ hx1; have c4 := cell_of_row _ _ 4 _ _ _ hx1; have c5 := cell_of_row _ _ 5 _ _ _ hx1; have c6 := cell_of_row _ _ 6 _ _ _ hx1; have c7 := cell_of_row _ _ 7 _ _ _ hx1; have c8 := cell_of_row _ _ 8 _ _ _ hx1; clear hb hb1 hx1))
    go_wp2_with fail
    go_meet
    case rel => exact ⟨congrArg (fun s => Value.string (bs s)) (by simp [numBytes]), HB.out, HX.out⟩
  case rest =>
    obtain ⟨rfl, hb, hx⟩ := hcut
    clear HB HX c0 c1 c2 c3 c4 c5 c6 c7 c8
    have HB := Lib.hid hb
    have HX := Lib.hid hx
    clear hb hx
    go_wp2
    go_loopw [3, 4] (fun x i wr => ∃ k : Nat, k ≤ l.length ∧ i = .int .i64 k ∧ x = .string (bs (numBytes h l.length ++ entsBytes (l.take k))) ∧ Below w.heap.size w wr ∧ wr.heap[w.heap.size]? = some (.cells #[.int .i64 h.house, .int .i64 h.gen, .int .i64 h.life, .int .i64 h.seq, .int .i64 h.next, .int .i64 h.clock, .int .i64 h.sb, .int .i64 h.sn, .slice A l.length c] 24 (0, 0))) (fun _ i _ => l.length - (intOf i).toNat)
    case atStart => exact ⟨0, by omega, rfl, by simp [entsBytes], HB.out, HX.out⟩
    clear HB HX
    case round =>
      obtain ⟨k, hk, rfl, rfl, hb, hx⟩ := hrel
      have HB := Lib.hid hb
      have HX := Lib.hid hx
      have c8 := cell_of_row _ _ 8 _ _ _ hx
      clear hb hx
      by_cases hlt : k < l.length
      · have HS : Hid (numBytes h l.length ++ entsBytes (l.take (k + 1)) = (numBytes h l.length ++ entsBytes (l.take k)) ++ entBytes l[k]) := by
          unfold Hid; rw [entsBytes_snoc l k hlt, List.append_assoc]
        have hsl : (numBytes h l.length ++ entsBytes (l.take k)).length ≤ 200 := by
          rw [List.length_append, numBytes_length, entsBytes_length, List.length_take, Nat.min_eq_left hk]; omega
        obtain ⟨b, o, c', hv, hbw, e0, e1, e2⟩ := EE_at (HR.out.below HB.out) k hlt
        simp only [Value.slice.injEq] at hv
        obtain ⟨rfl, -, rfl⟩ := hv
        generalize l[k] = x at *
        generalize numBytes h l.length ++ entsBytes (l.take k) = s at *
        have i0 : (0 : Int) ≤ (k : Int) := by omega
        have i1 : (k : Int) < (l.length : Int) := by omega
        have r1 : ∀ W : World, (Op.stringOp .add (bs s) (bs (putB x.k 1))).run Try.prog W = .ok (.string (bs (s ++ putB x.k 1))) W := fun W => add_bs _ _ W (by rw [l1]; omega)
        have r2 : ∀ W : World, (Op.stringOp .add (bs (s ++ putB x.k 1)) (bs (putB x.n 1))).run Try.prog W = .ok (.string (bs (s ++ (putB x.k 1 ++ putB x.n 1)))) W := fun W => by rw [add_bs _ _ W (by rw [List.length_append, l1, l1]; omega), List.append_assoc]
        have r3 : ∀ W : World, (Op.stringOp .add (bs (s ++ (putB x.k 1 ++ putB x.n 1))) (bs (putB x.p 2))).run Try.prog W = .ok (.string (bs (s ++ entBytes x))) W := fun W => by rw [add_bs _ _ W (by rw [List.length_append, List.length_append, l1, l1, l2]; omega)]; simp only [entBytes, List.append_assoc]
        have HRX := Lib.hid (HR.out.below HB.out)
        have HRB : Hid (w.heap.size < wr.heap.size ∧ b < wr.heap.size ∧ wr.cell? ⟨b, o + k * 3, none⟩ = some (.int .i64 x.k) ∧ wr.cell? ⟨b, o + k * 3 + 1, none⟩ = some (.int .i64 x.n) ∧ wr.cell? ⟨b, o + k * 3 + 2, none⟩ = some (.int .i64 x.p)) := ⟨lt_of_block HX.out, hbw, e0, e1, e2⟩
        go_upto_region 5 with fail
        go_region_held3 (fun w' => w'.cell? ⟨w.heap.size, 8, none⟩ = some (.slice (some ⟨b, o, none⟩) l.length c) ∧ w'.cell? ⟨b, o + k * 3, none⟩ = some (.int .i64 x.k) ∧ w'.cell? ⟨b, o + k * 3 + 1, none⟩ = some (.int .i64 x.n) ∧ w'.cell? ⟨b, o + k * 3 + 2, none⟩ = some (.int .i64 x.p)) (go_keep)
          ((go_at_call 90; refine (refPut_any _ _ _ (by decide)).mono ?_; rintro e w1 ⟨rfl, hb⟩; have hb1 := HB.out.trans (by first | exact hb.mono HB.out.size | exact (below_of_drew hb).mono HB.out.size); have hx1 := (hb.block _ (lt_of_block HX.out)).trans HX.out; have hq : w.heap.size < w1.heap.size ∧ b < w1.heap.size ∧ w1.cell? ⟨b, o + k * 3, none⟩ = some (.int .i64 x.k) ∧ w1.cell? ⟨b, o + k * 3 + 1, none⟩ = some (.int .i64 x.n) ∧ w1.cell? ⟨b, o + k * 3 + 2, none⟩ = some (.int .i64 x.p) := ⟨Nat.lt_of_lt_of_le HRB.out.1 hb.size, Nat.lt_of_lt_of_le HRB.out.2.1 hb.size, (hb.cell (p := ⟨b, o + k * 3, none⟩) HRB.out.2.1).trans HRB.out.2.2.1, (hb.cell (p := ⟨b, o + k * 3 + 1, none⟩) HRB.out.2.1).trans HRB.out.2.2.2.1, (hb.cell (p := ⟨b, o + k * 3 + 2, none⟩) HRB.out.2.1).trans HRB.out.2.2.2.2⟩; clear HX HB HRB e0 e1 e2 c8; have HX := Lib.hid hx1; have HB := Lib.hid hb1; have c8 := cell_of_row _ _ 8 _ _ _ hx1; obtain ⟨-, -, e0, e1, e2⟩ := id hq; have HRB := Lib.hid hq; clear hb hb1 hx1 hq))
        clear r1 r2 r3 e0 e1 e2 c8 HRB HRX
        go_wp2_with fail
        go_roundw
        case rel => exact ⟨k + 1, by omega, by go_num, by rw [HS.out], HB.out, HX.out⟩
        case measure => simp only [intOf]; omega
      · have HK : Hid (headBytes h l = (numBytes h l.length ++ entsBytes (l.take k)) ++ List.replicate (252 - (numBytes h l.length ++ entsBytes (l.take k)).length) 0) := by
          unfold Hid headBytes padTo; rw [List.take_of_length_le (by omega)]
        have hsl : (numBytes h l.length ++ entsBytes (l.take k)).length ≤ 200 := by
          rw [List.length_append, numBytes_length, entsBytes_length, List.length_take, Nat.min_eq_left hk]; omega
        generalize numBytes h l.length ++ entsBytes (l.take k) = s at *
        have hm : ∀ W : World, (Instr.makeSlice 38 (.int .i64 (252 - (s.length : Int))) (.int .i64 (252 - (s.length : Int)))).run Try.prog W = .ok (.slice (some ⟨W.heap.size, 0, none⟩) (252 - s.length) (252 - s.length)) (W.alloc (.cells (bc (List.replicate (252 - s.length) 0)) 5)) := by
          intro W
          rw [show (252 - (s.length : Int)) = ((252 - s.length : Nat) : Int) by omega]
          exact mk38 _ (by omega) W
        have hcv := fun W : World => conv_new W (List.replicate (252 - s.length) 0) (252 - s.length) (by simp)
        have hadd := fun W : World => add_bs s (List.replicate (252 - s.length) 0) W (by rw [List.length_replicate]; omega)
        have HBE := Lib.hid (HB.out.alloc HB.out.size (.cells (bc (List.replicate (252 - s.length) 0)) 5))
        go_wp2
        go_ret
        exact ⟨ret_str HK.out.symm, HBE.out⟩
end
end Go.Proofs.Ytjoplgdcpihmaaa
