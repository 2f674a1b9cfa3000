/- Houses: which may be, one by one (table.house). -/
import Derived.Test.YtjoplgdcpihmaaaTabA
import Derived.Test.YtjoplgdcpihmaaaFr
import Derived.Laws.StructEq
namespace Go.Proofs.Ytjoplgdcpihmaaa
open Go.RowKit
theorem info3 : (Try.prog.info? 3).map (fun i => (i.zero, i.size, i.bytes)) = some (some (.int .i64 0), 1, 8) := by kernel_rfl
/-- Whole numbers. -/
def EI : El Int := { t := 58, e := 3, size := 1, bytes := 8, z := .int .i64 0, enc := fun c => [.int .i64 c], len := fun _ => rfl, one := fun x u hu => by simp at hu; subst hu; rfl, pos := by decide, ht := Try.underlying58, hinfo := info3, hz := rfl }
def nthI (l : List Int) (k : Nat) : Int := l.getD k 0
theorem EI_at {w : World} {v : Value} {l : List Int} (h : EI.Reads w v l) (i : Nat) (hi : i < l.length) : ∃ b o c, v = .slice (some ⟨b, o, none⟩) l.length c ∧ b < w.heap.size ∧ w.cell? ⟨b, o + i, none⟩ = some (.int .i64 (nthI l i)) := by
  obtain ⟨b, o, c, hv, hb, hc⟩ := h.at i l[i] (List.getElem?_eq_getElem hi)
  have := hc 0 _ rfl
  simp only [EI, Nat.mul_one, Nat.add_zero] at this
  refine ⟨b, o, c, hv, hb, ?_⟩
  rw [this]
  simp only [nthI, List.getD_eq_getElem?_getD, List.getElem?_eq_getElem hi, Option.getD_some]
def lastOf (l : List Int) (k : Nat) : Int := if k = 0 then -1 else nthI l (k - 1)
theorem lastOf_succ (l : List Int) (k : Nat) : lastOf l (k + 1) = nthI l k := by simp [lastOf]
/-- Element k is above the one ahead of it, and one of so many. -/
def okAt (many : Int) (l : List Int) (k : Nat) : Prop := lastOf l k < nthI l k ∧ nthI l k < many
def risB (many : Int) (l : List Int) : Bool := (List.range l.length).all fun k => decide (lastOf l k < nthI l k) && decide (nthI l k < many)
theorem risB_iff {many : Int} {l : List Int} : risB many l = true ↔ ∀ k, k < l.length → okAt many l k := by
  unfold risB okAt
  rw [List.all_eq_true]
  simp
theorem risB_no {many : Int} {l : List Int} (k : Nat) (hk : k < l.length) (h : ¬ okAt many l k) : risB many l = false := by
  rw [Bool.eq_false_iff]; intro hh; exact h (risB_iff.1 hh k hk)
/-- An entry may be. -/
def houseB (many st gn : Int) (x : Lim) (l : List Int) : Bool :=
  inB st 0 2 && (inB gn 0 65535 && (if st = 0 then (l.length == 0) && limZ x else risB many l && (decide (0 < gn) && (limB x && ((l.length : Int) == x.sg)))))
section
set_option maxRecDepth 100000 in
set_option maxHeartbeats 4000000 in
theorem house_any (many st gn : Int) (x : Lim) (v : Value) (l : List Int) (w : World) (hr : EI.Reads w v l) (hl : l.length ≤ 140737488351232) :
    Calls Try.prog 107 #[.int .i64 many, .agg #[.int .i64 st, .int .i64 gn, .int .i64 x.sg, .int .i64 x.hb, .int .i64 x.sb, .int .i64 x.hn, .int .i64 x.sn, .int .i64 x.gr, .int .i64 x.bu, v]] w fun e w' => e = .returned (.bool (houseB many st gn x l)) ∧ Below w.heap.size w w' := by
  have hr' := hr
  obtain ⟨A, c, rfl, hc, -⟩ := hr'
  have HB00 := Lib.hid ((Below.refl w.heap.size w).alloc (Nat.le_refl _) (.cells #[.int .i64 st, .int .i64 gn, .int .i64 x.sg, .int .i64 x.hb, .int .i64 x.sb, .int .i64 x.hn, .int .i64 x.sn, .int .i64 x.gr, .int .i64 x.bu, .slice A l.length c] 61))
  have HR := Lib.hid (hr.below HB00.out)
  have E3 := Lib.hid (fun j => cell_of_row _ _ j _ _ _ (heap_alloc_new w (.cells #[.int .i64 st, .int .i64 gn, .int .i64 x.sg, .int .i64 x.hb, .int .i64 x.sb, .int .i64 x.hn, .int .i64 x.sn, .int .i64 x.gr, .int .i64 x.bu, .slice A l.length c] 61)))
  have S3 : Hid (w.heap.size < (w.alloc (.cells #[.int .i64 st, .int .i64 gn, .int .i64 x.sg, .int .i64 x.hb, .int .i64 x.sb, .int .i64 x.hn, .int .i64 x.sn, .int .i64 x.gr, .int .i64 x.bu, .slice A l.length c] 61)).heap.size) := by unfold Hid; simp
  have HB := Lib.hid (Below.refl (w.alloc (.cells #[.int .i64 st, .int .i64 gn, .int .i64 x.sg, .int .i64 x.hb, .int .i64 x.sb, .int .i64 x.hn, .int .i64 x.sn, .int .i64 x.gr, .int .i64 x.bu, .slice A l.length c] 61)).heap.size (w.alloc (.cells #[.int .i64 st, .int .i64 gn, .int .i64 x.sg, .int .i64 x.hb, .int .i64 x.sb, .int .i64 x.hn, .int .i64 x.sn, .int .i64 x.gr, .int .i64 x.bu, .slice A l.length c] 61)))
  clear hr
  cases h1 : inB st 0 2 with
  | false =>
    rw [show houseB many st gn x l = false by unfold houseB; rw [h1]; rfl]
    go_enter Try.func107, Try.ntmps107
    go_wp2_with (go_at_call 100; refine (tin_val _ _ _ _ _ (by with_reducible assumption)).mono ?_; rintro e w' ⟨rfl, rfl⟩)
    go_ret
    exact ⟨rfl, HB00.out⟩
  | true =>
  cases h2 : inB gn 0 65535 with
  | false =>
    rw [show houseB many st gn x l = false by unfold houseB; rw [h1, h2]; rfl]
    go_enter Try.func107, Try.ntmps107
    go_wp2_with (go_at_call 100; refine (tin_val _ _ _ _ _ (by with_reducible assumption)).mono ?_; rintro e w' ⟨rfl, rfl⟩)
    go_ret
    exact ⟨rfl, HB00.out⟩
  | true =>
  by_cases hz : st = 0
  · subst hz
    have HF : Hid (houseB many 0 gn x l = ((l.length == 0) && limZ x)) := by unfold Hid houseB; rw [h1, h2]; simp
    by_cases h0 : l.length = 0
    · have HF2 : Hid (houseB many 0 gn x l = limZ x) := by unfold Hid; rw [HF.out, h0]; simp
      have hd0 : ((l.length : Int) == 0) = true := by simp [h0]
      have H0 := Lib.hid h0
      clear h0
      have HW := Lib.hid (limz_ways x)
      rcases HW.out with ⟨z1, hr⟩ | ⟨z1, z2, hr⟩ | ⟨z1, z2, z3, hr⟩ | ⟨z1, z2, z3, z4, hr⟩ | ⟨z1, z2, z3, z4, z5, hr⟩ | ⟨z1, z2, z3, z4, z5, z6, hr⟩ | ⟨z1, z2, z3, z4, z5, z6, z7, hr⟩ | ⟨z1, z2, z3, z4, z5, z6, z7, hr⟩
      all_goals
        have HF3 : Hid (houseB many 0 gn x l = _) := HF2.out.trans hr
        clear hr
        go_enter Try.func107, Try.ntmps107
        go_wp2_with (go_at_call 100; refine (tin_val _ _ _ _ _ (by with_reducible assumption)).mono ?_; rintro e w' ⟨rfl, rfl⟩)
        go_ret
        exact ⟨ret_bool HF3.out.symm, HB00.out⟩
    · have HF2 : Hid (houseB many 0 gn x l = false) := by unfold Hid; rw [HF.out, show (l.length == 0) = false by simpa using h0]; rfl
      have hd0 : ((l.length : Int) == 0) = false := by rw [beq_eq_false_iff_ne]; omega
      have H0 := Lib.hid h0
      clear h0
      go_enter Try.func107, Try.ntmps107
      go_wp2_with (go_at_call 100; refine (tin_val _ _ _ _ _ (by with_reducible assumption)).mono ?_; rintro e w' ⟨rfl, rfl⟩)
      go_ret
      exact ⟨ret_bool HF2.out.symm, HB00.out⟩
  · have hzb : (st == 0) = false := by simpa using hz
    have HF : Hid (houseB many st gn x l = (risB many l && (decide (0 < gn) && (limB x && ((l.length : Int) == x.sg))))) := by unfold Hid houseB; rw [h1, h2, if_neg hz]; simp
    clear hz
    go_enter Try.func107, Try.ntmps107
    go_wp2_with (go_at_call 100; refine (tin_val _ _ _ _ _ (by with_reducible assumption)).mono ?_; rintro e w' ⟨rfl, rfl⟩)
    go_loop [5, 7, 34] (fun q _ i => ∃ k : Nat, k ≤ l.length ∧ i = .int .i64 k ∧ q = .int .i64 (lastOf l k) ∧ ∀ j, j < k → okAt many l j) (fun _ _ i => l.length - (intOf i).toNat)
    case atStart => exact ⟨0, by omega, rfl, rfl, fun j hj => by omega⟩
    case round =>
      obtain ⟨k, hk, rfl, rfl, hok⟩ := hrel
      have HOK := Lib.hid hok
      clear hok
      by_cases hlt : k < l.length
      · obtain ⟨b, o, c', hv, hbw, e0⟩ := EI_at HR.out k hlt
        simp only [Value.slice.injEq] at hv
        obtain ⟨rfl, -, rfl⟩ := hv
        have HK := Lib.hid hlt
        have HLS := Lib.hid (lastOf_succ l k)
        by_cases hA : lastOf l k < nthI l k
        · by_cases hM : nthI l k < many
          · have HO2 : Hid (∀ j, j < k + 1 → okAt many l j) := fun j hj => by
              rcases Nat.lt_or_ge j k with h | h
              · exact HOK.out j h
              · obtain rfl : j = k := by omega
                exact ⟨hA, hM⟩
            go_wp2
            go_round
            case rel => exact ⟨k + 1, by omega, by go_num, by rw [HLS.out], HO2.out⟩
            case measure => simp [intOf]; omega
          · have HN : Hid (houseB many st gn x l = false) := by unfold Hid; rw [HF.out, risB_no k hlt (fun h => hM h.2)]; rfl
            go_wp2
            go_ret
            exact ⟨ret_bool HN.out.symm, HB00.out⟩
        · have HN : Hid (houseB many st gn x l = false) := by unfold Hid; rw [HF.out, risB_no k hlt (fun h => hA h.1)]; rfl
          go_wp2
          go_ret
          exact ⟨ret_bool HN.out.symm, HB00.out⟩
      · have hris : risB many l = true := risB_iff.2 fun j hj => HOK.out j (by omega)
        have HF2 : Hid (houseB many st gn x l = (decide (0 < gn) && (limB x && ((l.length : Int) == x.sg)))) := by unfold Hid; rw [HF.out, hris]; rfl
        clear hris
        have hc0 := E3.out
        cases hg : decide (0 < gn) with
        | false =>
          have HF3 : Hid (houseB many st gn x l = false) := by unfold Hid; rw [HF2.out, hg]; rfl
          have hg' : ¬ 0 < gn := by simpa using hg
          clear hg
          go_wp2
          go_ret
          exact ⟨ret_bool HF3.out.symm, HB00.out⟩
        | true =>
          have hg' : 0 < gn := by simpa using hg
          have HG := Lib.hid hg
          clear hg
          cases hlb : limB x with
          | false =>
            have HL := Lib.hid hlb
            have HF3 : Hid (houseB many st gn x l = false) := by unfold Hid; rw [HF2.out, HG.out, hlb]; rfl
            clear hlb
            go_wp2_with fail
            refine (climit_val x false _ HL.out).mono ?_
            rintro e w1 ⟨rfl, hb⟩
            have HB1 := Lib.hid (HB00.out.trans (hb.mono HB00.out.size))
            clear hb
            go_wp2
            go_ret
            exact ⟨ret_bool HF3.out.symm, HB1.out⟩
          | true =>
            have HL := Lib.hid hlb
            have HF3 : Hid (houseB many st gn x l = ((l.length : Int) == x.sg)) := by unfold Hid; rw [HF2.out, HG.out, hlb]; rfl
            clear hlb
            go_wp2_with fail
            refine (climit_val x true _ HL.out).mono ?_
            rintro e w1 ⟨rfl, hb⟩
            have HB' := Lib.hid (HB.out.trans (hb.mono HB.out.size)); clear HB hb; have HB := HB'; clear HB'; have e3 : ∀ j : Nat, w1.cell? ⟨w.heap.size, j, none⟩ = _ := fun j => (HB.out.cell (p := ⟨w.heap.size, j, none⟩) S3.out).trans (E3.out j); have s3 : w.heap.size < w1.heap.size := Nat.lt_of_lt_of_le S3.out HB.out.size
            go_wp2
            go_ret
            exact ⟨ret_bool HF3.out.symm, HB00.out.trans (HB.out.mono HB00.out.size)⟩
end
end Go.Proofs.Ytjoplgdcpihmaaa
