/- head.Check and the document's own: whole heads. -/
import Derived.Test.YtjoplgdcpihmaaaHeadA
import Derived.Deep.DeepCutAuto
import Derived.Deep.CutBlock
import Derived.Deep.LoopGhost
namespace Go.Proofs.Ytjoplgdcpihmaaa
open Go.RowKit

/-- The numbers of a head may be. -/
def numsB (h : Hd) : Bool := inB h.house 1 16 && (inB h.gen 1 65535 && (inB h.life 1 1048575 && (inB h.seq 1 1099511627776 && (inB h.next 0 65535 && (inB h.clock 0 1099511627776 && (inB h.sb 0 1099511627777 && inB h.sn 0 1099511627777))))))
def checkB (h : Hd) (l : List Ent) : Bool := (numsB h && decide ((l.length : Int) ≤ 24)) && l.all entB
theorem nums_ways (h : Hd) :
    (inB h.house 1 16 = false ∧ numsB h = false) ∨
    (inB h.house 1 16 = true ∧ inB h.gen 1 65535 = false ∧ numsB h = false) ∨
    (inB h.house 1 16 = true ∧ inB h.gen 1 65535 = true ∧ inB h.life 1 1048575 = false ∧ numsB h = false) ∨
    (inB h.house 1 16 = true ∧ inB h.gen 1 65535 = true ∧ inB h.life 1 1048575 = true ∧ inB h.seq 1 1099511627776 = false ∧ numsB h = false) ∨
    (inB h.house 1 16 = true ∧ inB h.gen 1 65535 = true ∧ inB h.life 1 1048575 = true ∧ inB h.seq 1 1099511627776 = true ∧ inB h.next 0 65535 = false ∧ numsB h = false) ∨
    (inB h.house 1 16 = true ∧ inB h.gen 1 65535 = true ∧ inB h.life 1 1048575 = true ∧ inB h.seq 1 1099511627776 = true ∧ inB h.next 0 65535 = true ∧ inB h.clock 0 1099511627776 = false ∧ numsB h = false) ∨
    (inB h.house 1 16 = true ∧ inB h.gen 1 65535 = true ∧ inB h.life 1 1048575 = true ∧ inB h.seq 1 1099511627776 = true ∧ inB h.next 0 65535 = true ∧ inB h.clock 0 1099511627776 = true ∧ inB h.sb 0 1099511627777 = false ∧ numsB h = false) ∨
    (inB h.house 1 16 = true ∧ inB h.gen 1 65535 = true ∧ inB h.life 1 1048575 = true ∧ inB h.seq 1 1099511627776 = true ∧ inB h.next 0 65535 = true ∧ inB h.clock 0 1099511627776 = true ∧ inB h.sb 0 1099511627777 = true ∧ inB h.sn 0 1099511627777 = false ∧ numsB h = false) ∨
    (inB h.house 1 16 = true ∧ inB h.gen 1 65535 = true ∧ inB h.life 1 1048575 = true ∧ inB h.seq 1 1099511627776 = true ∧ inB h.next 0 65535 = true ∧ inB h.clock 0 1099511627776 = true ∧ inB h.sb 0 1099511627777 = true ∧ inB h.sn 0 1099511627777 = true ∧ numsB h = true) := by
  unfold numsB
  generalize inB h.house 1 16 = b1
  generalize inB h.gen 1 65535 = b2
  generalize inB h.life 1 1048575 = b3
  generalize inB h.seq 1 1099511627776 = b4
  generalize inB h.next 0 65535 = b5
  generalize inB h.clock 0 1099511627776 = b6
  generalize inB h.sb 0 1099511627777 = b7
  generalize inB h.sn 0 1099511627777 = b8
  revert b1 b2 b3 b4 b5 b6 b7 b8
  decide

theorem all_snoc (l : List Ent) (k : Nat) (c : Ent) (h : l[k]? = some c) : (l.take (k + 1)).all entB = ((l.take k).all entB && entB c) := by
  obtain ⟨hk, rfl⟩ := List.getElem?_eq_some_iff.1 h
  rw [List.take_succ_eq_append_getElem hk, List.all_append]; simp

set_option maxRecDepth 100000 in
set_option maxHeartbeats 1000000 in
theorem check_any (h : Hd) (v : Value) (l : List Ent) (w : World) (hr : EE.Reads w v l) (hl : l.length * 24 ≤ 140737488351232) :
    Calls Try.prog 32 #[.agg #[.int .i64 h.house, .int .i64 h.gen, .int .i64 h.life, .int .i64 h.seq, .int .i64 h.next, .int .i64 h.clock, .int .i64 h.sb, .int .i64 h.sn, v]] w
      fun e w' => e = .returned (.bool (checkB h l)) ∧ Below w.heap.size w w' := by
  have hr' := hr
  obtain ⟨A, c, rfl, hc, -⟩ := hr'
  have HR := Lib.hid hr
  clear hr
  have HW := Lib.hid (nums_ways h)
  go_enter Try.func32, Try.ntmps32
  go_upto_region 1 with fail
  go_cut [3] (fun v3 wc => v3 = .bool (numsB h && decide ((l.length : Int) ≤ 24)) ∧ wc = w.alloc (.cells #[.int .i64 h.house, .int .i64 h.gen, .int .i64 h.life, .int .i64 h.seq, .int .i64 h.next, .int .i64 h.clock, .int .i64 h.sb, .int .i64 h.sn, .slice A l.length c] 24))
  case first =>
    rcases HW.out with ⟨h1, hr⟩ | ⟨h1, h2, hr⟩ | ⟨h1, h2, h3, hr⟩ | ⟨h1, h2, h3, h4, hr⟩ | ⟨h1, h2, h3, h4, h5, hr⟩ | ⟨h1, h2, h3, h4, h5, h6, hr⟩ | ⟨h1, h2, h3, h4, h5, h6, h7, hr⟩ | ⟨h1, h2, h3, h4, h5, h6, h7, h8, hr⟩ | ⟨h1, h2, h3, h4, h5, h6, h7, h8, hr⟩
    all_goals
      have HN := Lib.hid hr
      clear hr
      go_wp2_with (go_at_call 93; refine (in_val _ _ _ _ _ (by with_reducible assumption)).mono ?_; rintro e w' ⟨rfl, rfl⟩)
      go_meet
      case rel => exact ⟨by rw [HN.out]; simp, rfl⟩
  case rest =>
    obtain ⟨rfl, rfl⟩ := hcut
    have HB0 : Hid (Below w.heap.size w (w.alloc (.cells #[.int .i64 h.house, .int .i64 h.gen, .int .i64 h.life, .int .i64 h.seq, .int .i64 h.next, .int .i64 h.clock, .int .i64 h.sb, .int .i64 h.sn, .slice A l.length c] 24))) := (Below.refl _ _).alloc (Nat.le_refl _) _
    have HP : Hid (checkB h l = ((numsB h && decide ((l.length : Int) ≤ 24)) && l.all entB)) := rfl
    generalize (numsB h && decide ((l.length : Int) ≤ 24)) = b0 at *
    go_wp2
    go_loopw [3, 53] (fun x i wr => ∃ k : Nat, k ≤ l.length ∧ i = .int .i64 k ∧ x = .bool (b0 && (l.take k).all entB) ∧ Below w.heap.size w wr) (fun _ i _ => l.length - (intOf i).toNat)
    case atStart => exact ⟨0, by omega, rfl, by simp, HB0.out⟩
    case round =>
      obtain ⟨k, hk, rfl, rfl, hb⟩ := hrel
      have HB := Lib.hid hb
      clear hb
      by_cases hlt : k < l.length
      · have HS := Lib.hid (all_snoc l k l[k] (List.getElem?_eq_getElem hlt))
        obtain ⟨b, o, c', hv, hbw, c0, c1, c2⟩ := EE_at (HR.out.below HB.out) k hlt
        simp only [Value.slice.injEq] at hv
        obtain ⟨rfl, -, rfl⟩ := hv
        have hoz : ((b0 && (l.take k).all entB) && entB l[k]) = (b0 && (l.take (k + 1)).all entB) := by rw [HS.out, Bool.and_assoc]
        have HO := Lib.hid hoz
        clear hoz
        generalize l[k] = x at *
        generalize (b0 && (l.take k).all entB) = b1 at *
        cases b1 with
        | false =>
          go_wp2
          go_roundw
          case rel => exact ⟨k + 1, by omega, by go_num, by rw [← HO.out]; rfl, (HB.out.alloc HB.out.size _)⟩
          case measure => simp only [intOf]; omega
        | true =>
          go_wp2_with (go_at_call 94; refine (entry_any x _).mono ?_; rintro e w' ⟨rfl, hb1⟩; have HB1 := Lib.hid hb1; clear hb1)
          go_roundw
          case rel => exact ⟨k + 1, by omega, by go_num, by rw [← HO.out]; rfl, (HB.out.alloc HB.out.size _).trans (HB1.out.mono (by have := HB.out.size; simp; omega))⟩
          case measure => simp only [intOf]; omega
      · go_wp2
        go_ret
        exact ⟨ret_bool (by rw [HP.out, List.take_of_length_le (by omega)]), HB.out⟩
end Go.Proofs.Ytjoplgdcpihmaaa
