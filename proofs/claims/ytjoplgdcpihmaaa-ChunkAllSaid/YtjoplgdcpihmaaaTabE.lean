/- Which houses may be (the document's own Check). -/
import Derived.Test.YtjoplgdcpihmaaaTabD
import Derived.BigQuiet
import Derived.Deep.QuietTactic
namespace Go.Proofs.Ytjoplgdcpihmaaa
open Go.RowKit
theorem nthI_get {l : List Int} {i : Nat} (h : i < l.length) : l[i] = nthI l i := by simp only [nthI, List.getD_eq_getElem?_getD, List.getElem?_eq_getElem h, Option.getD_some]
theorem has_any (v : Value) (l : List Int) (n : Int) (w : World) (hr : EI.Reads w v l) (hl : l.length ≤ 140737488351232) :
    Calls Try.prog 109 #[v, .int .i64 n] w fun e w' => e = .returned (.bool (decide (n ∈ l))) ∧ w = w' := by
  have hr' := hr
  obtain ⟨A, c, rfl, hc, -⟩ := hr'
  have HR := Lib.hid hr
  clear hr
  go_enter Try.func109, Try.ntmps109
  go_wp2
  go_loop [5] (fun i => ∃ k : Nat, k ≤ l.length ∧ i = .int .i64 k ∧ ∀ j, j < k → nthI l j ≠ n) (fun i => l.length - (intOf i).toNat)
  case atStart => exact ⟨0, by omega, rfl, fun j hj => by omega⟩
  case round =>
    obtain ⟨k, hk, rfl, hno⟩ := hrel
    have HN := Lib.hid hno
    clear hno
    by_cases hlt : k < l.length
    · obtain ⟨b, o, c', hv, hbw, e0⟩ := EI_at HR.out k hlt
      simp only [Value.slice.injEq] at hv
      obtain ⟨rfl, -, rfl⟩ := hv
      have HM := Lib.hid (nthI_mem hlt)
      by_cases he : nthI l k = n
      · have hd : (nthI l k == n) = true := by simpa using he
        have HD : Hid (decide (n ∈ l) = true) := by unfold Hid; rw [decide_eq_true_eq, ← he]; exact HM.out
        clear he
        go_wp2
        go_ret
        exact ⟨ret_bool HD.out.symm, rfl⟩
      · have hd : (nthI l k == n) = false := by simpa using he
        have HN2 : Hid (∀ j, j < k + 1 → nthI l j ≠ n) := fun j hj => by
          rcases Nat.lt_or_ge j k with h | h
          · exact HN.out j h
          · obtain rfl : j = k := by omega
            exact he
        clear he
        go_wp2
        go_round
        case rel => exact ⟨k + 1, by omega, by go_num, HN2.out⟩
        case measure => simp [intOf]; omega
    · have HD : Hid (decide (n ∈ l) = false) := by
        unfold Hid
        rw [decide_eq_false_iff_not]
        intro hm
        obtain ⟨i, hi, he⟩ := List.getElem_of_mem hm
        rw [nthI_get hi] at he
        exact HN.out i (by omega) he
      go_wp2
      go_ret
      exact ⟨ret_bool HD.out.symm, rfl⟩
theorem has_val (v : Value) (l : List Int) (n : Int) (r : Bool) (w : World) (hr : EI.Reads w v l) (hl : l.length ≤ 140737488351232) (h : decide (n ∈ l) = r) :
    Calls Try.prog 109 #[v, .int .i64 n] w fun e w' => e = .returned (.bool r) ∧ w' = w := (has_any v l n w hr hl).mono fun _ _ ⟨h1, h2⟩ => ⟨h ▸ h1, h2.symm⟩
theorem one_val (many : Int) (d : HD) (v : Value) (r : Bool) (w : World) (hr : EI.Reads w v d.segs) (hl : d.segs.length ≤ 140737488351232) (h : hdB many d = r) :
    Calls Try.prog 108 #[.int .i64 many, .agg #[.int .i64 d.st, .int .i64 d.gn, .int .i64 d.x.sg, .int .i64 d.x.hb, .int .i64 d.x.sb, .int .i64 d.x.hn, .int .i64 d.x.sn, .int .i64 d.x.gr, .int .i64 d.x.bu, v]] w fun e w' => e = .returned (.bool r) ∧ Below w.heap.size w w' := h ▸ one_any many d.st d.gn d.x v d.segs w hr hl
theorem notin_flat {L : List HD} {k : Nat} {s : Int} (h : ∀ i e, i < k → L[i]? = some e → ¬ s ∈ e.segs) : ¬ s ∈ flat (L.take k) := by
  unfold flat
  rw [List.mem_flatMap]
  rintro ⟨e, he, hs⟩
  obtain ⟨i, hi, rfl⟩ := List.getElem_of_mem he
  rw [List.length_take] at hi
  rw [List.getElem_take] at hs
  exact h i _ (by omega) (List.getElem?_eq_getElem (by omega)) hs
theorem in_flat {L : List HD} {k i : Nat} {s : Int} {e : HD} (hi : i < k) (he : L[i]? = some e) (hs : s ∈ e.segs) : s ∈ flat (L.take k) := by
  unfold flat
  rw [List.mem_flatMap]
  refine ⟨e, ?_, hs⟩
  have : (L.take k)[i]? = some e := by rw [List.getElem?_take, if_pos hi]; exact he
  exact List.mem_of_getElem? this
section
set_option maxRecDepth 100000 in
set_option maxHeartbeats 4000000 in
theorem rcheck_any (many : Int) (v : Value) (l : List HM) (w : World) (hr : HReads w v l) (hl : l.length ≤ 100000) (hls : ∀ h ∈ l, h.d.segs.length ≤ 140737488351232) :
    Calls Try.prog 49 #[.int .i64 many, v] w fun e w' => e = .returned (.bool (tableB many (l.map (·.d)))) ∧ Below w.heap.size w w' := by
  have hr' := hr.1
  obtain ⟨A, c, rfl, hc, -⟩ := hr'
  have HR := Lib.hid hr
  clear hr
  by_cases h16 : l.length = 16
  · have hd16 : ((l.length : Int) != 16) = false := by rw [h16]; decide
    have H16 := Lib.hid h16
    have hl16 : (l.length : Int) ≤ 16 := by omega
    have hl16' : (16 : Int) ≤ (l.length : Int) := by omega
    clear h16
    go_enter Try.func49, Try.ntmps49
    go_wp2
    go_loopw [5, 6, 7] (fun i _ _ wr => ∃ k : Nat, k ≤ l.length ∧ i = .int .i64 k ∧ Below w.heap.size w wr ∧ preOk many (l.map (·.d)) k) (fun i _ _ _ => l.length - (intOf i).toNat)
    case atStart => exact ⟨0, by omega, rfl, Below.refl _ _, preOk_zero _ _⟩
    case round =>
      obtain ⟨k, hk, rfl, hb, hpre⟩ := hrel
      have HB := Lib.hid hb
      have HP := Lib.hid hpre
      clear hb hpre
      by_cases hlt : k < l.length
      · obtain ⟨⟨d, XA, xc⟩, hx⟩ : ∃ x, l[k]? = some x := ⟨_, List.getElem?_eq_getElem hlt⟩
        have HXD : Hid ((l.map (·.d))[k]? = some d) := by unfold Hid; rw [List.getElem?_map, hx]; rfl
        have HXL : Hid (d.segs.length ≤ 140737488351232) := hls _ (List.mem_of_getElem? hx)
        obtain ⟨b, o, c', hv, hbw, hri, k0, k1, k2, k3, k4, k5, k6, k7, k8, k9⟩ := (HR.out.below HB.out).cells k _ hx
        simp only [Value.slice.injEq] at hv
        obtain ⟨rfl, -, rfl⟩ := hv
        simp only at hri k0 k1 k2 k3 k4 k5 k6 k7 k8 k9
        have HRI := Lib.hid hri
        have HRW := Lib.hid (HR.out.2 _ (List.mem_of_getElem? hx))
        have HX := Lib.hid hx
        clear hri hx
        cases hcb : hdB many d with
        | false =>
          have HN : Hid (tableB many (l.map (·.d)) = false) := bad_house HXD.out hcb
          have HCB := Lib.hid hcb
          clear hcb
          go_wp2_with fail
          refine (one_val many d _ false _ HRI.out HXL.out HCB.out).mono ?_
          rintro e w1 ⟨rfl, hb⟩
          have HB1 : Hid (Below w.heap.size w w1) := HB.out.trans (hb.mono HB.out.size)
          clear hb
          go_wp2
          go_ret
          exact ⟨ret_bool HN.out.symm, HB1.out⟩
        | true =>
          have HCB := Lib.hid hcb
          clear hcb
          go_wp2_with fail
          refine (one_val many d _ true _ HRI.out HXL.out HCB.out).mono ?_
          rintro e w1 ⟨rfl, hb⟩
          have HB1 : Hid (Below w.heap.size w w1) := HB.out.trans (hb.mono HB.out.size)
          clear hb k0 k1 k2 k3 k4 k5 k6 k7 k8 k9
          go_wp2
          go_loopw [6, 7] (fun q _ wi => ∃ p : Nat, p ≤ k ∧ q = .int .i64 p ∧ Below w.heap.size w wi ∧ ∀ i e, i < p → (l.map (·.d))[i]? = some e → ∀ s ∈ d.segs, ¬ s ∈ e.segs) (fun q _ _ => k - (intOf q).toNat)
          case atStart => exact ⟨0, by omega, rfl, HB1.out, fun i e hi => by omega⟩
          clear HB1
          case round =>
            obtain ⟨p, hp, rfl, hb1, hn1⟩ := hrel
            have HB1 := Lib.hid hb1
            have HN1 := Lib.hid hn1
            clear hb1 hn1
            by_cases hpk : p < k
            · obtain ⟨⟨d2, YA, yc⟩, hy⟩ : ∃ y, l[p]? = some y := ⟨_, List.getElem?_eq_getElem (by omega)⟩
              have HYD : Hid ((l.map (·.d))[p]? = some d2) := by unfold Hid; rw [List.getElem?_map, hy]; rfl
              have HYL : Hid (d2.segs.length ≤ 140737488351232) := hls _ (List.mem_of_getElem? hy)
              have HYW := Lib.hid (HR.out.2 _ (List.mem_of_getElem? hy))
              have HY := Lib.hid hy
              clear hy
              go_wp2
              go_loopw [7] (fun q wj => ∃ j : Nat, j ≤ d.segs.length ∧ q = .int .i64 j ∧ Below w.heap.size w wj ∧ ∀ i, i < j → ¬ nthI d.segs i ∈ d2.segs) (fun q _ => d.segs.length - (intOf q).toNat)
              case atStart => exact ⟨0, by omega, rfl, HB1.out, fun i hi => by omega⟩
              clear HB1
              case round =>
                obtain ⟨j, hj, rfl, hb2, hn2⟩ := hrel
                have HB2 := Lib.hid hb2
                have HN2 := Lib.hid hn2
                clear hb2 hn2
                obtain ⟨b1, o1, c1, hv, -, -, -, -, -, -, -, -, -, -, -, x9⟩ := (HR.out.below HB2.out).cells k _ HX.out
                simp only [Value.slice.injEq, Option.some.injEq, Addr.mk.injEq, and_true, true_and] at hv
                obtain ⟨⟨rfl, rfl⟩, -⟩ := hv
                simp only at x9
                by_cases hjl : j < d.segs.length
                · obtain ⟨b1, o1, c1, hv, -, -, -, -, -, -, -, -, -, -, -, y9⟩ := (HR.out.below HB2.out).cells p _ HY.out
                  simp only [Value.slice.injEq, Option.some.injEq, Addr.mk.injEq, and_true, true_and] at hv
                  obtain ⟨⟨rfl, rfl⟩, -⟩ := hv
                  simp only at y9
                  obtain ⟨b', o', c', hv, hbw', e0⟩ := EI_at (HRW.out.below HB2.out) j hjl
                  simp only [Value.slice.injEq] at hv
                  obtain ⟨rfl, -, rfl⟩ := hv
                  have i0 : (0 : Int) ≤ (p : Int) := by omega
                  have i1 : (p : Int) < (l.length : Int) := by omega
                  have i2 : (0 : Int) ≤ (k : Int) := by omega
                  have i3 : (k : Int) < (l.length : Int) := by omega
                  have i4 : (0 : Int) ≤ (j : Int) := by omega
                  have i5 : (j : Int) < (d.segs.length : Int) := by omega
                  have i6 : (d.segs.length : Int) ≤ 140737488351232 := by have := HXL.out; omega
                  have HM := Lib.hid (nthI_mem hjl)
                  cases hin : decide (nthI d.segs j ∈ d2.segs) with
                  | true =>
                    have HI := Lib.hid hin
                    have HN : Hid (tableB many (l.map (·.d)) = false) := bad_twice HXD.out _ HM.out (in_flat hpk HYD.out (by simpa using hin))
                    clear hin
                    go_wp2
                    go_quiet ((go_at_call 109; exact Calls.quiet_of_same (has_val _ d2.segs _ true _ (HYW.out.below (below_drewN HB2.out _)) HYL.out HI.out)))
                    go_wp2
                    go_ret
                    exact ⟨ret_bool HN.out.symm, below_drewN HB2.out _⟩
                  | false =>
                    have HI := Lib.hid hin
                    have HN3 : Hid (∀ i, i < j + 1 → ¬ nthI d.segs i ∈ d2.segs) := fun i hi => by
                      rcases Nat.lt_or_ge i j with h | h
                      · exact HN2.out i h
                      · obtain rfl : i = j := by omega
                        simpa using hin
                    clear hin
                    go_wp2
                    go_quiet ((go_at_call 109; exact Calls.quiet_of_same (has_val _ d2.segs _ false _ (HYW.out.below (below_drewN HB2.out _)) HYL.out HI.out)))
                    go_wp2
                    go_roundw
                    case rel => exact ⟨j + 1, by omega, by go_num, below_drewN HB2.out _, HN3.out⟩
                    case measure => simp only [intOf]; omega
                · have HN3 : Hid (∀ i e, i < p + 1 → (l.map (·.d))[i]? = some e → ∀ s ∈ d.segs, ¬ s ∈ e.segs) := fun i e hi he s hs => by
                    rcases Nat.lt_or_ge i p with h | h
                    · exact HN1.out i e h he s hs
                    · obtain rfl : i = p := by omega
                      rw [HYD.out] at he; cases he
                      obtain ⟨a, ha, rfl⟩ := List.getElem_of_mem hs
                      rw [nthI_get ha]
                      exact HN2.out a (by omega)
                  go_wp2
                  go_roundw
                  case rel => exact ⟨p + 1, by omega, by go_num, HB2.out, HN3.out⟩
                  case measure => simp only [intOf]; omega
            · have HP2 : Hid (preOk many (l.map (·.d)) (k + 1)) := preOk_succ HP.out HXD.out HCB.out (fun s hs => notin_flat fun i e hi he => HN1.out i e (by omega) he s hs)
              go_wp2
              go_roundw
              case rel => exact ⟨k + 1, by omega, by go_num, HB1.out, HP2.out⟩
              case measure => simp only [intOf]; omega
      · have HN : Hid (tableB many (l.map (·.d)) = true) := by
          have hk16 : k = 16 := by have := H16.out; omega
          subst hk16
          exact preOk_all (by rw [List.length_map]; exact H16.out) HP.out
        go_wp2
        go_ret
        exact ⟨ret_bool HN.out.symm, HB.out⟩
  · have hd16 : ((l.length : Int) != 16) = true := by rw [bne_iff_ne]; omega
    have HN : Hid (tableB many (l.map (·.d)) = false) := bad_many (by rw [List.length_map]; exact h16)
    clear h16
    go_enter Try.func49, Try.ntmps49
    go_wp2
    go_ret
    exact ⟨ret_bool HN.out.symm, Below.refl _ _⟩
end
end Go.Proofs.Ytjoplgdcpihmaaa
