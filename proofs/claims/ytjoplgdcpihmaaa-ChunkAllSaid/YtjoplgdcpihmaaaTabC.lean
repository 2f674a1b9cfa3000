/- Houses: which may be, one by one (the document's own). -/
import Derived.Test.YtjoplgdcpihmaaaTabB
import Derived.BigQuiet
import Derived.Deep.QuietTactic
namespace Go.Proofs.Ytjoplgdcpihmaaa
open Go.RowKit
theorem ok_nonneg {many : Int} {l : List Int} {k : Nat} (h : ∀ j, j < k → okAt many l j) : ∀ j, j < k → 0 ≤ nthI l j := by
  intro j
  induction j with
  | zero => intro hj; have := (h 0 hj).1; simp [lastOf] at this; omega
  | succ j ih => intro hj; have h1 := (h (j + 1) hj).1; rw [lastOf_succ] at h1; have := ih (by omega); omega
theorem below_drewN {B : Nat} {a w : World} (h : Below B a w) (n : Nat) : Below B a (w.drewN n) := ⟨h.os, h.tape, h.output, h.size, h.block⟩
theorem last_ge {many : Int} {l : List Int} {k : Nat} (h : ∀ j, j < k → okAt many l j) : -1 ≤ lastOf l k := by
  unfold lastOf
  split
  · omega
  · have := ok_nonneg h (k - 1) (by omega); omega
section
set_option maxRecDepth 100000 in
set_option maxHeartbeats 4000000 in
theorem one_any (many st gn : Int) (x : Lim) (v : Value) (l : List Int) (w : World) (hr : EI.Reads w v l) (hl : l.length ≤ 140737488351232) :
    Calls Try.prog 108 #[.int .i64 many, .agg #[.int .i64 st, .int .i64 gn, .int .i64 x.sg, .int .i64 x.hb, .int .i64 x.sb, .int .i64 x.hn, .int .i64 x.sn, .int .i64 x.gr, .int .i64 x.bu, v]] w fun e w' => e = .returned (.bool (houseB many st gn x l)) ∧ Below w.heap.size w w' := by
  have hr' := hr
  obtain ⟨A, c, rfl, hc, -⟩ := hr'
  have HB00 := Lib.hid ((Below.refl w.heap.size w).alloc (Nat.le_refl _) (.cells #[.int .i64 st, .int .i64 gn, .int .i64 x.sg, .int .i64 x.hb, .int .i64 x.sb, .int .i64 x.hn, .int .i64 x.sn, .int .i64 x.gr, .int .i64 x.bu, .slice A l.length c] 61))
  have HR := Lib.hid (hr.below HB00.out)
  have E3 := Lib.hid (fun j => cell_of_row _ _ j _ _ _ (heap_alloc_new w (.cells #[.int .i64 st, .int .i64 gn, .int .i64 x.sg, .int .i64 x.hb, .int .i64 x.sb, .int .i64 x.hn, .int .i64 x.sn, .int .i64 x.gr, .int .i64 x.bu, .slice A l.length c] 61)))
  have S3 : Hid (w.heap.size < (w.alloc (.cells #[.int .i64 st, .int .i64 gn, .int .i64 x.sg, .int .i64 x.hb, .int .i64 x.sb, .int .i64 x.hn, .int .i64 x.sn, .int .i64 x.gr, .int .i64 x.bu, .slice A l.length c] 61)).heap.size) := by unfold Hid; simp
  have HB := Lib.hid (Below.refl (w.alloc (.cells #[.int .i64 st, .int .i64 gn, .int .i64 x.sg, .int .i64 x.hb, .int .i64 x.sb, .int .i64 x.hn, .int .i64 x.sn, .int .i64 x.gr, .int .i64 x.bu, .slice A l.length c] 61)).heap.size (w.alloc (.cells #[.int .i64 st, .int .i64 gn, .int .i64 x.sg, .int .i64 x.hb, .int .i64 x.sb, .int .i64 x.hn, .int .i64 x.sn, .int .i64 x.gr, .int .i64 x.bu, .slice A l.length c] 61)))
  clear hr
  cases h1 : inB st 0 2 with
  | false =>
    rw [show houseB many st gn x l = false by unfold houseB; rw [h1]; rfl]
    go_enter Try.func108, Try.ntmps108
    go_wp2_with (go_at_call 106; refine (rin_val _ _ _ _ _ (by with_reducible assumption)).mono ?_; rintro e w' ⟨rfl, rfl⟩)
    go_ret
    exact ⟨rfl, HB00.out⟩
  | true =>
  cases h2 : inB gn 0 65535 with
  | false =>
    rw [show houseB many st gn x l = false by unfold houseB; rw [h1, h2]; rfl]
    go_enter Try.func108, Try.ntmps108
    go_wp2_with (go_at_call 106; refine (rin_val _ _ _ _ _ (by with_reducible assumption)).mono ?_; rintro e w' ⟨rfl, rfl⟩)
    go_ret
    exact ⟨rfl, HB00.out⟩
  | true =>
  by_cases hz : st = 0
  · subst hz
    have HF : Hid (houseB many 0 gn x l = ((l.length == 0) && limZ x)) := by unfold Hid houseB; rw [h1, h2]; simp
    by_cases h0 : l.length = 0
    · have HF2 : Hid (houseB many 0 gn x l = limZ x) := by unfold Hid; rw [HF.out, h0]; simp
      have hd0 : ((l.length : Int) == 0) = true := by simp [h0]
      clear h0
      go_enter Try.func108, Try.ntmps108
      go_wp2_with (first | (go_at_call 106; refine (rin_val _ _ _ _ _ (by with_reducible assumption)).mono ?_; rintro e w' ⟨rfl, rfl⟩) | (go_at_call 138; refine (rzero_any x _).mono ?_; rintro e w1 ⟨rfl, hb⟩; have HB1 := Lib.hid (HB00.out.trans (hb.mono HB00.out.size)); clear hb))
      go_ret
      exact ⟨ret_bool HF2.out.symm, HB1.out⟩
    · have HF2 : Hid (houseB many 0 gn x l = false) := by unfold Hid; rw [HF.out, show (l.length == 0) = false by simpa using h0]; rfl
      have hd0 : ((l.length : Int) == 0) = false := by rw [beq_eq_false_iff_ne]; omega
      clear h0
      go_enter Try.func108, Try.ntmps108
      go_wp2_with (go_at_call 106; refine (rin_val _ _ _ _ _ (by with_reducible assumption)).mono ?_; rintro e w' ⟨rfl, rfl⟩)
      go_ret
      exact ⟨ret_bool HF2.out.symm, HB00.out⟩
  · have hzb : (st == 0) = false := by simpa using hz
    have HF : Hid (houseB many st gn x l = (risB many l && (decide (0 < gn) && (limB x && ((l.length : Int) == x.sg))))) := by unfold Hid houseB; rw [h1, h2, if_neg hz]; simp
    have hg0 := inB_iff.1 h2
    clear hz
    by_cases hg : gn = 0
    · have hgb : (gn == 0) = true := by simpa using hg
      have HN : Hid (houseB many st gn x l = false) := by unfold Hid; rw [HF.out, show decide (0 < gn) = false by simp [hg]]; simp
      clear hg
      go_enter Try.func108, Try.ntmps108
      go_wp2_with (go_at_call 106; refine (rin_val _ _ _ _ _ (by with_reducible assumption)).mono ?_; rintro e w' ⟨rfl, rfl⟩)
      go_ret
      exact ⟨ret_bool HN.out.symm, HB00.out⟩
    · have hgb : (gn == 0) = false := by simpa using hg
      have hgp : decide (0 < gn) = true := by simp; omega
      have HF1 : Hid (houseB many st gn x l = (risB many l && (limB x && ((l.length : Int) == x.sg)))) := by unfold Hid; rw [HF.out, hgp, Bool.true_and]
      clear hg hgp
      cases hlb : limB x with
      | false =>
        have HL := Lib.hid hlb
        have HN : Hid (houseB many st gn x l = false) := by unfold Hid; rw [HF1.out, hlb]; simp
        clear hlb
        go_enter Try.func108, Try.ntmps108
        go_wp2_with (first | (go_at_call 106; refine (rin_val _ _ _ _ _ (by with_reducible assumption)).mono ?_; rintro e w' ⟨rfl, rfl⟩) | (go_at_call 47; refine (rclimit_val x false _ HL.out).mono ?_; rintro e w1 ⟨rfl, hb⟩; have HB1 := Lib.hid (HB00.out.trans (hb.mono HB00.out.size)); clear hb))
        go_ret
        exact ⟨ret_bool HN.out.symm, HB1.out⟩
      | true =>
        have HL := Lib.hid hlb
        by_cases hsg : (l.length : Int) = x.sg
        · have HF2 : Hid (houseB many st gn x l = risB many l) := by unfold Hid; rw [HF1.out, hlb, show ((l.length : Int) == x.sg) = true by simpa using hsg]; simp
          have hsb : ((l.length : Int) != x.sg) = false := by simpa using hsg
          clear hlb hsg
          go_enter Try.func108, Try.ntmps108
          go_wp2_with (first | (go_at_call 106; refine (rin_val _ _ _ _ _ (by with_reducible assumption)).mono ?_; rintro e w' ⟨rfl, rfl⟩) | (go_at_call 47; refine (rclimit_val x true _ HL.out).mono ?_; rintro e w1 ⟨rfl, hb⟩; have HB' := Lib.hid (HB.out.trans (hb.mono HB.out.size)); clear HB hb; have HB := HB'; clear HB'; have e3 : ∀ j : Nat, w1.cell? ⟨w.heap.size, j, none⟩ = _ := fun j => (HB.out.cell (p := ⟨w.heap.size, j, none⟩) S3.out).trans (E3.out j); have s3 : w.heap.size < w1.heap.size := Nat.lt_of_lt_of_le S3.out HB.out.size))
          go_loopw [5] (fun i wr => ∃ k : Nat, k ≤ l.length ∧ i = .int .i64 k ∧ (∀ j, j < k → okAt many l j) ∧ Below (w.alloc (.cells #[.int .i64 st, .int .i64 gn, .int .i64 x.sg, .int .i64 x.hb, .int .i64 x.sb, .int .i64 x.hn, .int .i64 x.sn, .int .i64 x.gr, .int .i64 x.bu, .slice A l.length c] 61)).heap.size (w.alloc (.cells #[.int .i64 st, .int .i64 gn, .int .i64 x.sg, .int .i64 x.hb, .int .i64 x.sb, .int .i64 x.hn, .int .i64 x.sn, .int .i64 x.gr, .int .i64 x.bu, .slice A l.length c] 61)) wr) (fun i _ => l.length - (intOf i).toNat)
          case atStart => exact ⟨0, by omega, rfl, fun j hj => by omega, HB.out⟩
          clear e3 s3 HB
          case round =>
            obtain ⟨k, hk, rfl, hok, hbb⟩ := hrel
            have HB := Lib.hid hbb
            have HOK := Lib.hid hok
            have hnn := last_ge hok
            clear hok hbb
            have e3 : ∀ j : Nat, wr.cell? ⟨w.heap.size, j, none⟩ = _ := fun j => (HB.out.cell (p := ⟨w.heap.size, j, none⟩) S3.out).trans (E3.out j); have s3 : w.heap.size < wr.heap.size := Nat.lt_of_lt_of_le S3.out HB.out.size
            by_cases hlt : k < l.length
            · obtain ⟨b, o, c', hv, hbw, e0⟩ := EI_at (HR.out.below HB.out) k hlt
              simp only [Value.slice.injEq] at hv
              obtain ⟨rfl, -, rfl⟩ := hv
              have HLT := Lib.hid hlt
              have i0 : (0 : Int) ≤ (k : Int) := by omega
              have i1 : (k : Int) < (l.length : Int) := by omega
              by_cases hs0 : nthI l k < 0
              · have hd1 : decide (nthI l k < 0) = true := by simpa using hs0
                have HN : Hid (houseB many st gn x l = false) := by unfold Hid; rw [HF2.out, risB_no k hlt (fun h => by have := h.1; omega)]
                clear hlt
                go_wp2
                go_quiet (fail)
                go_wp2
                go_ret
                exact ⟨ret_bool HN.out.symm, HB00.out.trans ((below_drewN HB.out _).mono HB00.out.size)⟩
              · have hd1 : decide (nthI l k < 0) = false := by simpa using hs0
                by_cases hsm : many ≤ nthI l k
                · have hd2 : decide (many ≤ nthI l k) = true := by simpa using hsm
                  have HN : Hid (houseB many st gn x l = false) := by unfold Hid; rw [HF2.out, risB_no k hlt (fun h => by have := h.2; omega)]
                  clear hlt
                  go_wp2
                  go_quiet (fail)
                  go_wp2
                  go_ret
                  exact ⟨ret_bool HN.out.symm, HB00.out.trans ((below_drewN HB.out _).mono HB00.out.size)⟩
                · have hd2 : decide (many ≤ nthI l k) = false := by simpa using hsm
                  by_cases hk0 : k = 0
                  · have hd3 : decide (0 < k) = false := by simpa using hk0
                    have HO2 : Hid (∀ j, j < k + 1 → okAt many l j) := fun j hj => by
                      obtain rfl : j = k := by omega
                      exact ⟨by simp only [lastOf, hk0, ↓reduceIte]; subst hk0; omega, by omega⟩
                    clear hlt hk0
                    go_wp2
                    go_quiet (fail)
                    go_wp2
                    go_roundw
                    case rel => exact ⟨k + 1, HLT.out, by go_num, HO2.out, below_drewN HB.out _⟩
                    case measure => simp only [intOf]; omega
                  · have hd3 : decide (0 < k) = true := by simp; omega
                    obtain ⟨b', o', c'', hv', -, e1⟩ := EI_at (HR.out.below HB.out) (k - 1) (by omega)
                    simp only [Value.slice.injEq, Option.some.injEq, Addr.mk.injEq, and_true, true_and] at hv'
                    obtain ⟨⟨rfl, rfl⟩, -⟩ := hv'
                    have q0 : IntKind.i64.wrap ((k : Int) - 1) = (k : Int) - 1 := IntWalk.i64_in _ (by omega)
                    have q1 : ((k : Int) - 1).toNat = k - 1 := by omega
                    have q2 : (0 : Int) ≤ (k : Int) - 1 := by omega
                    have q3 : (k : Int) - 1 < (l.length : Int) := by omega
                    have HLA : Hid (lastOf l k = nthI l (k - 1)) := by unfold Hid lastOf; rw [if_neg hk0]
                    by_cases hsp : nthI l k ≤ nthI l (k - 1)
                    · have hd4 : decide (nthI l k ≤ nthI l (k - 1)) = true := by simpa using hsp
                      have HN : Hid (houseB many st gn x l = false) := by unfold Hid; rw [HF2.out, risB_no k hlt (fun h => by have := h.1; rw [HLA.out] at this; omega)]
                      clear hlt hk0
                      go_wp2
                      go_quiet (fail)
                      go_wp2
                      go_ret
                      exact ⟨ret_bool HN.out.symm, HB00.out.trans ((below_drewN HB.out _).mono HB00.out.size)⟩
                    · have hd4 : decide (nthI l k ≤ nthI l (k - 1)) = false := by simpa using hsp
                      have HO2 : Hid (∀ j, j < k + 1 → okAt many l j) := fun j hj => by
                        rcases Nat.lt_or_ge j k with h | h
                        · exact HOK.out j h
                        · obtain rfl : j = k := by omega
                          exact ⟨by rw [HLA.out]; omega, by omega⟩
                      clear hlt hk0
                      go_wp2
                      go_quiet (fail)
                      clear q0 q1 q2 q3
                      go_wp2
                      go_roundw
                      case rel => exact ⟨k + 1, HLT.out, by go_num, HO2.out, below_drewN HB.out _⟩
                      case measure => simp only [intOf]; omega
            · have HN : Hid (houseB many st gn x l = true) := by unfold Hid; rw [HF2.out]; exact risB_iff.2 fun j hj => HOK.out j (by omega)
              go_wp2
              go_ret
              exact ⟨ret_bool HN.out.symm, HB00.out.trans (HB.out.mono HB00.out.size)⟩
        · have HN : Hid (houseB many st gn x l = false) := by unfold Hid; rw [HF1.out, show ((l.length : Int) == x.sg) = false by simpa using hsg]; simp
          have hsb : ((l.length : Int) != x.sg) = true := by simpa using hsg
          clear hlb hsg
          go_enter Try.func108, Try.ntmps108
          go_wp2_with (first | (go_at_call 106; refine (rin_val _ _ _ _ _ (by with_reducible assumption)).mono ?_; rintro e w' ⟨rfl, rfl⟩) | (go_at_call 47; refine (rclimit_val x true _ HL.out).mono ?_; rintro e w1 ⟨rfl, hb⟩; have HB' := Lib.hid (HB.out.trans (hb.mono HB.out.size)); clear HB hb; have HB := HB'; clear HB'; have e3 : ∀ j : Nat, w1.cell? ⟨w.heap.size, j, none⟩ = _ := fun j => (HB.out.cell (p := ⟨w.heap.size, j, none⟩) S3.out).trans (E3.out j); have s3 : w.heap.size < w1.heap.size := Nat.lt_of_lt_of_le S3.out HB.out.size))
          go_ret
          exact ⟨ret_bool HN.out.symm, HB00.out.trans (HB.out.mono HB00.out.size)⟩
end
end Go.Proofs.Ytjoplgdcpihmaaa
