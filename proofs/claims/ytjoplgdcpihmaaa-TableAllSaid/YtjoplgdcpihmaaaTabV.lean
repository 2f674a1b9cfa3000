/- The table's bytes, the document's own (Put). -/
import Derived.Test.YtjoplgdcpihmaaaTabE
import Derived.Test.YtjoplgdcpihmaaaTabH
import Derived.Test.YtjoplgdcpihmaaaHeadG
import Derived.Test.YtjoplgdcpihmaaaPlain6
import Derived.Deep.RegionHeld3
namespace Go.Proofs.Ytjoplgdcpihmaaa
open Go.RowKit
section
attribute [local go_sem] bs_size
attribute [local go_sem ↓] Go.wp_at_zero Go.wp_at_succ
set_option maxRecDepth 100000 in
set_option maxHeartbeats 8000000 in
theorem rtput_yes (num : Int) (v : Value) (l : List HM) (L : List HD) (w : World) (hr : HReads w v l) (hL : L = l.map (·.d)) (hl : l.length ≤ 100000) (hls : ∀ h ∈ l, h.d.segs.length ≤ 140737488351232) (hn : inB num 0 1099511627776 = true) (ht : tableB 65536 L = true) :
    Calls Try.prog 43 #[.int .i64 num, v] w fun e w' => e = .returned (.tuple #[.string (bs (tabBytes num L ++ putB (crcOf (tabBytes num L)) 4)), .bool true]) ∧ Below w.heap.size w w' := by
  have hr' := hr.1
  obtain ⟨A, c, rfl, hc, -⟩ := hr'
  have HR := Lib.hid hr
  have HL := Lib.hid hL
  have HT := Lib.hid ht
  have h16 : l.length = 16 := by have := table_len ht; rw [hL, List.length_map] at this; exact this
  have H16 := Lib.hid h16
  have hnb := inB_iff.1 hn
  have hhd : Hid (tabHead num = [66, 71, 84, 66] ++ putB num 6) := rfl
  have hadd : ∀ W : World, (Op.stringOp .add ⟨#[66, 71, 84, 66]⟩ (bs (putB num 6))).run Try.prog W = .ok (.string (bs (tabHead num))) W := fun W => by
    rw [hhd.out]
    exact add_bs [66, 71, 84, 66] (putB num 6) W (by rw [putB_length]; decide)
  have hln : (l.length : Int) = 16 := by omega
  clear hr hL ht hn h16
  go_enter Try.func43, Try.ntmps43
  go_wp2_with fail
  refine (rcheck_any 65536 _ l _ HR.out hl hls).mono ?_
  rw [← HL.out, HT.out]
  rintro e w1 ⟨rfl, hb⟩
  have HB1 := Lib.hid hb
  clear hb
  go_wp2_with fail
  refine (refPut_any _ _ _ (by decide)).mono ?_
  rintro e w2 ⟨rfl, hb⟩
  have HB2 := Lib.hid (HB1.out.trans (hb.mono HB1.out.size))
  clear hb HB1
  go_wp2_with fail
  clear hadd
  go_loopw [6, 7] (fun p i wr => ∃ k : Nat, k ≤ 16 ∧ i = .int .i64 k ∧ p = .string (bs (tabFront num (L.take k))) ∧ Below w.heap.size w wr) (fun _ i _ => 16 - (intOf i).toNat)
  case atStart => exact ⟨0, by omega, rfl, by unfold tabFront; simp, HB2.out⟩
  clear HB2
  case round =>
    obtain ⟨k, hk, rfl, rfl, hb⟩ := hrel
    obtain ⟨wk, rfl⟩ : ∃ wk, wk = wr := ⟨wr, rfl⟩
    have HB := Lib.hid hb
    clear hb
    by_cases hlt : k < 16
    · obtain ⟨⟨d, XA, xc⟩, hx⟩ : ∃ x, l[k]? = some x := ⟨_, List.getElem?_eq_getElem (by rw [H16.out]; exact hlt)⟩
      have HX : Hid (L[k]? = some d) := by unfold Hid; rw [HL.out, List.getElem?_map, hx]; rfl
      obtain ⟨b, o, c', hv, hbw, hri, a0, a1, a2, a3, a4, a5, a6, a7, a8, a9⟩ := (HR.out.below HB.out).cells k _ hx
      simp only [Value.slice.injEq] at hv
      obtain ⟨rfl, -, rfl⟩ := hv
      simp only at hri a0 a1 a2 a3 a4 a5 a6 a7 a8 a9
      have HRI := Lib.hid hri
      have HHL : Hid (d.segs.length ≤ 40) := house_len (table_house HT.out d (List.mem_of_getElem? HX.out))
      clear hri hx
      have HF0 := Lib.hid (Fr.two wk #[.int .i64 d.st, .int .i64 d.gn, .int .i64 d.x.sg, .int .i64 d.x.hb, .int .i64 d.x.sb, .int .i64 d.x.hn, .int .i64 d.x.sn, .int .i64 d.x.gr, .int .i64 d.x.bu, .slice XA d.segs.length xc] #[.int .i64 d.x.sg, .int .i64 d.x.hb, .int .i64 d.x.sb, .int .i64 d.x.hn, .int .i64 d.x.sn, .int .i64 d.x.gr, .int .i64 d.x.bu] 61 48)
      go_upto_region 9 with fail
      clear a0 a1 a2 a3 a4 a5 a6 a7 a8 a9
      generalize (wk.alloc (.cells #[.int .i64 d.st, .int .i64 d.gn, .int .i64 d.x.sg, .int .i64 d.x.hb, .int .i64 d.x.sb, .int .i64 d.x.hn, .int .i64 d.x.sn, .int .i64 d.x.gr, .int .i64 d.x.bu, .slice XA d.segs.length xc] 61)).alloc (.cells #[.int .i64 d.x.sg, .int .i64 d.x.hb, .int .i64 d.x.sb, .int .i64 d.x.hn, .int .i64 d.x.sn, .int .i64 d.x.gr, .int .i64 d.x.bu] 48) = W0 at *
      have HPL : Hid ((tabFront num (L.take k)).length ≤ 2000) := by unfold Hid; rw [tabFront_len, List.length_take]; omega
      go_cut [6] (fun p wc => p = .string (bs (tabFront num (L.take k) ++ fldBytes d 10)) ∧ Fr wk wc [(#[.int .i64 d.st, .int .i64 d.gn, .int .i64 d.x.sg, .int .i64 d.x.hb, .int .i64 d.x.sb, .int .i64 d.x.hn, .int .i64 d.x.sn, .int .i64 d.x.gr, .int .i64 d.x.bu, .slice XA d.segs.length xc], 61), (#[.int .i64 d.x.sg, .int .i64 d.x.hb, .int .i64 d.x.sb, .int .i64 d.x.hn, .int .i64 d.x.sn, .int .i64 d.x.gr, .int .i64 d.x.bu], 48)])
      case first =>
        have eH : ∀ j : Nat, W0.cell? ⟨wk.heap.size, j, none⟩ = (#[.int .i64 d.st, .int .i64 d.gn, .int .i64 d.x.sg, .int .i64 d.x.hb, .int .i64 d.x.sb, .int .i64 d.x.hn, .int .i64 d.x.sn, .int .i64 d.x.gr, .int .i64 d.x.bu, .slice XA d.segs.length xc] : Array Value)[j]? := HF0.out.cells (i := 0) rfl rfl
        have eX : ∀ j : Nat, W0.cell? ⟨wk.heap.size + 1, j, none⟩ = (#[.int .i64 d.x.sg, .int .i64 d.x.hb, .int .i64 d.x.sb, .int .i64 d.x.hn, .int .i64 d.x.sn, .int .i64 d.x.gr, .int .i64 d.x.bu] : Array Value)[j]? := HF0.out.cells (i := 1) rfl rfl
        obtain ⟨s0, hs0⟩ : ∃ s, s = tabFront num (L.take k) ++ fldBytes d 0 := ⟨_, rfl⟩
        obtain ⟨s1, hs1⟩ : ∃ s, s = tabFront num (L.take k) ++ fldBytes d 1 := ⟨_, rfl⟩
        obtain ⟨s2, hs2⟩ : ∃ s, s = tabFront num (L.take k) ++ fldBytes d 2 := ⟨_, rfl⟩
        obtain ⟨s3, hs3⟩ : ∃ s, s = tabFront num (L.take k) ++ fldBytes d 3 := ⟨_, rfl⟩
        obtain ⟨s4, hs4⟩ : ∃ s, s = tabFront num (L.take k) ++ fldBytes d 4 := ⟨_, rfl⟩
        obtain ⟨s5, hs5⟩ : ∃ s, s = tabFront num (L.take k) ++ fldBytes d 5 := ⟨_, rfl⟩
        obtain ⟨s6, hs6⟩ : ∃ s, s = tabFront num (L.take k) ++ fldBytes d 6 := ⟨_, rfl⟩
        obtain ⟨s7, hs7⟩ : ∃ s, s = tabFront num (L.take k) ++ fldBytes d 7 := ⟨_, rfl⟩
        obtain ⟨s8, hs8⟩ : ∃ s, s = tabFront num (L.take k) ++ fldBytes d 8 := ⟨_, rfl⟩
        obtain ⟨s9, hs9⟩ : ∃ s, s = tabFront num (L.take k) ++ fldBytes d 9 := ⟨_, rfl⟩
        obtain ⟨s10, hs10⟩ : ∃ s, s = tabFront num (L.take k) ++ fldBytes d 10 := ⟨_, rfl⟩
        have r0 : ∀ W : World, (Op.stringOp .add (bs s0) (bs (putB d.st 1))).run Try.prog W = .ok (.string (bs s1)) W := fun W => by rw [hs0, hs1, show fldBytes d 1 = fldBytes d 0 ++ putB d.st 1 from fldBytes_succ d 0, ← List.append_assoc]; exact add_bs (tabFront num (L.take k) ++ fldBytes d 0) (putB d.st 1) W (by have := HPL.out; have := fldBytes_le d 0; rw [List.length_append, putB_length]; omega)
        have r1 : ∀ W : World, (Op.stringOp .add (bs s1) (bs (putB d.gn 2))).run Try.prog W = .ok (.string (bs s2)) W := fun W => by rw [hs1, hs2, show fldBytes d 2 = fldBytes d 1 ++ putB d.gn 2 from fldBytes_succ d 1, ← List.append_assoc]; exact add_bs (tabFront num (L.take k) ++ fldBytes d 1) (putB d.gn 2) W (by have := HPL.out; have := fldBytes_le d 1; rw [List.length_append, putB_length]; omega)
        have r2 : ∀ W : World, (Op.stringOp .add (bs s2) (bs (putB d.x.sg 1))).run Try.prog W = .ok (.string (bs s3)) W := fun W => by rw [hs2, hs3, show fldBytes d 3 = fldBytes d 2 ++ putB d.x.sg 1 from fldBytes_succ d 2, ← List.append_assoc]; exact add_bs (tabFront num (L.take k) ++ fldBytes d 2) (putB d.x.sg 1) W (by have := HPL.out; have := fldBytes_le d 2; rw [List.length_append, putB_length]; omega)
        have r3 : ∀ W : World, (Op.stringOp .add (bs s3) (bs (putB d.x.hb 3))).run Try.prog W = .ok (.string (bs s4)) W := fun W => by rw [hs3, hs4, show fldBytes d 4 = fldBytes d 3 ++ putB d.x.hb 3 from fldBytes_succ d 3, ← List.append_assoc]; exact add_bs (tabFront num (L.take k) ++ fldBytes d 3) (putB d.x.hb 3) W (by have := HPL.out; have := fldBytes_le d 3; rw [List.length_append, putB_length]; omega)
        have r4 : ∀ W : World, (Op.stringOp .add (bs s4) (bs (putB d.x.sb 3))).run Try.prog W = .ok (.string (bs s5)) W := fun W => by rw [hs4, hs5, show fldBytes d 5 = fldBytes d 4 ++ putB d.x.sb 3 from fldBytes_succ d 4, ← List.append_assoc]; exact add_bs (tabFront num (L.take k) ++ fldBytes d 4) (putB d.x.sb 3) W (by have := HPL.out; have := fldBytes_le d 4; rw [List.length_append, putB_length]; omega)
        have r5 : ∀ W : World, (Op.stringOp .add (bs s5) (bs (putB d.x.hn 1))).run Try.prog W = .ok (.string (bs s6)) W := fun W => by rw [hs5, hs6, show fldBytes d 6 = fldBytes d 5 ++ putB d.x.hn 1 from fldBytes_succ d 5, ← List.append_assoc]; exact add_bs (tabFront num (L.take k) ++ fldBytes d 5) (putB d.x.hn 1) W (by have := HPL.out; have := fldBytes_le d 5; rw [List.length_append, putB_length]; omega)
        have r6 : ∀ W : World, (Op.stringOp .add (bs s6) (bs (putB d.x.sn 1))).run Try.prog W = .ok (.string (bs s7)) W := fun W => by rw [hs6, hs7, show fldBytes d 7 = fldBytes d 6 ++ putB d.x.sn 1 from fldBytes_succ d 6, ← List.append_assoc]; exact add_bs (tabFront num (L.take k) ++ fldBytes d 6) (putB d.x.sn 1) W (by have := HPL.out; have := fldBytes_le d 6; rw [List.length_append, putB_length]; omega)
        have r7 : ∀ W : World, (Op.stringOp .add (bs s7) (bs (putB d.x.gr 6))).run Try.prog W = .ok (.string (bs s8)) W := fun W => by rw [hs7, hs8, show fldBytes d 8 = fldBytes d 7 ++ putB d.x.gr 6 from fldBytes_succ d 7, ← List.append_assoc]; exact add_bs (tabFront num (L.take k) ++ fldBytes d 7) (putB d.x.gr 6) W (by have := HPL.out; have := fldBytes_le d 7; rw [List.length_append, putB_length]; omega)
        have r8 : ∀ W : World, (Op.stringOp .add (bs s8) (bs (putB d.x.bu 2))).run Try.prog W = .ok (.string (bs s9)) W := fun W => by rw [hs8, hs9, show fldBytes d 9 = fldBytes d 8 ++ putB d.x.bu 2 from fldBytes_succ d 8, ← List.append_assoc]; exact add_bs (tabFront num (L.take k) ++ fldBytes d 8) (putB d.x.bu 2) W (by have := HPL.out; have := fldBytes_le d 8; rw [List.length_append, putB_length]; omega)
        have r9 : ∀ W : World, (Op.stringOp .add (bs s9) (bs (putB (d.segs.length : Int) 1))).run Try.prog W = .ok (.string (bs s10)) W := fun W => by rw [hs9, hs10, show fldBytes d 10 = fldBytes d 9 ++ putB (d.segs.length : Int) 1 from fldBytes_succ d 9, ← List.append_assoc]; exact add_bs (tabFront num (L.take k) ++ fldBytes d 9) (putB (d.segs.length : Int) 1) W (by have := HPL.out; have := fldBytes_le d 9; rw [List.length_append, putB_length]; omega)
        have hs0' : tabFront num (L.take k) = s0 := by rw [hs0]; simp [fldBytes]
        rw [hs0']
        have HS10 := Lib.hid hs10
        clear hs0 hs1 hs2 hs3 hs4 hs5 hs6 hs7 hs8 hs9 hs10 hs0'
        have HF := HF0
        clear HF0
        go_region_held3 (fun w' => (∀ j : Nat, w'.cell? ⟨wk.heap.size, j, none⟩ = (#[.int .i64 d.st, .int .i64 d.gn, .int .i64 d.x.sg, .int .i64 d.x.hb, .int .i64 d.x.sb, .int .i64 d.x.hn, .int .i64 d.x.sn, .int .i64 d.x.gr, .int .i64 d.x.bu, .slice XA d.segs.length xc] : Array Value)[j]?) ∧ (∀ j : Nat, w'.cell? ⟨wk.heap.size + 1, j, none⟩ = (#[.int .i64 d.x.sg, .int .i64 d.x.hb, .int .i64 d.x.sb, .int .i64 d.x.hn, .int .i64 d.x.sn, .int .i64 d.x.gr, .int .i64 d.x.bu] : Array Value)[j]?)) (exact ⟨eH, eX⟩)
          ((go_at_call 90; refine (refPut_any _ _ _ (by decide)).mono ?_; rintro e v1 ⟨rfl, hb⟩; have HF' := Lib.hid (HF.out.below (by first | exact hb | exact below_of_drew hb)); clear HF hb eH eX; have HF := HF'; clear HF'; have eH : ∀ j : Nat, v1.cell? ⟨wk.heap.size, j, none⟩ = (#[.int .i64 d.st, .int .i64 d.gn, .int .i64 d.x.sg, .int .i64 d.x.hb, .int .i64 d.x.sb, .int .i64 d.x.hn, .int .i64 d.x.sn, .int .i64 d.x.gr, .int .i64 d.x.bu, .slice XA d.segs.length xc] : Array Value)[j]? := HF.out.cells (i := 0) rfl rfl; have eX : ∀ j : Nat, v1.cell? ⟨wk.heap.size + 1, j, none⟩ = (#[.int .i64 d.x.sg, .int .i64 d.x.hb, .int .i64 d.x.sb, .int .i64 d.x.hn, .int .i64 d.x.sn, .int .i64 d.x.gr, .int .i64 d.x.bu] : Array Value)[j]? := HF.out.cells (i := 1) rfl rfl))
        go_wp2_with fail
        go_meet
        case rel => exact ⟨by rw [HS10.out], HF.out⟩
      case rest =>
        obtain ⟨rfl, hF⟩ := hcut
        have HF := Lib.hid hF
        clear hF HF0
        have HPB : Hid ((tabFront num (L.take k) ++ fldBytes d 10).length ≤ 2100) := by unfold Hid; have := HPL.out; have := fldBytes_le d 10; rw [List.length_append]; omega
        have HSN : Hid (tabFront num (L.take (k + 1)) = (tabFront num (L.take k) ++ fldBytes d 10) ++ segBytes d.segs 40) := by
          unfold Hid
          rw [tabFront_snoc num L k d HX.out]; unfold houseBytes; rw [List.append_assoc]
        generalize tabFront num (L.take k) ++ fldBytes d 10 = pb at *
        go_wp2_with fail
        go_loopw [6, 10] (fun p jj wi => ∃ j : Nat, j ≤ 40 ∧ jj = .int .i64 j ∧ p = .string (bs (pb ++ segBytes d.segs j)) ∧ Fr wk wi [(#[.int .i64 d.st, .int .i64 d.gn, .int .i64 d.x.sg, .int .i64 d.x.hb, .int .i64 d.x.sb, .int .i64 d.x.hn, .int .i64 d.x.sn, .int .i64 d.x.gr, .int .i64 d.x.bu, .slice XA d.segs.length xc], 61), (#[.int .i64 d.x.sg, .int .i64 d.x.hb, .int .i64 d.x.sb, .int .i64 d.x.hn, .int .i64 d.x.sn, .int .i64 d.x.gr, .int .i64 d.x.bu], 48)]) (fun _ jj _ => 40 - (intOf jj).toNat)
        case atStart => exact ⟨0, by omega, rfl, by simp [segBytes], HF.out⟩
        clear HF
        case round =>
          obtain ⟨j, hj, rfl, rfl, hF⟩ := hrel
          have HF := Lib.hid hF
          clear hF
          by_cases hj40 : j < 40
          · have c9 : wr.cell? ⟨wk.heap.size, 9, none⟩ = some (.slice XA d.segs.length xc) := HF.out.cells (i := 0) rfl rfl 9
            have radd : ∀ W : World, (Op.stringOp .add (bs (pb ++ segBytes d.segs j)) (bs (putB (segAt d.segs j) 2))).run Try.prog W = .ok (.string (bs (pb ++ segBytes d.segs (j + 1)))) W := fun W => by
              rw [segBytes_succ, ← List.append_assoc]
              exact add_bs (pb ++ segBytes d.segs j) (putB (segAt d.segs j) 2) W (by have := HPB.out; rw [List.length_append, putB_length, segBytes_len]; omega)
            have hhl := HHL.out
            by_cases hjl : j < d.segs.length
            · obtain ⟨b3, o3, c3, hv, hbw3, e0⟩ := EI_at (HRI.out.below HF.out.bel) j hjl
              simp only [Value.slice.injEq] at hv
              obtain ⟨rfl, -, rfl⟩ := hv
              have hsa : segAt d.segs j = nthI d.segs j := by unfold segAt; rw [if_pos hjl]
              rw [hsa] at radd
              clear hsa
              generalize pb ++ segBytes d.segs j = q0 at *
              generalize hq1 : pb ++ segBytes d.segs (j + 1) = q1 at *
              have HQ1 := Lib.hid hq1
              clear hq1
              go_wp2_with fail
              refine (refPut_any _ _ _ (by decide)).mono ?_
              rintro e w5 ⟨rfl, hb⟩
              have HF5 := Lib.hid (HF.out.below hb)
              clear hb c9 e0
              go_wp2_with fail
              clear radd
              go_roundw
              case rel => exact ⟨j + 1, by omega, by go_num, by rw [HQ1.out], HF5.out⟩
              case measure => simp only [intOf]; omega
            · have hsa : segAt d.segs j = 0 := by unfold segAt; rw [if_neg hjl]
              rw [hsa] at radd
              clear hsa
              generalize pb ++ segBytes d.segs j = q0 at *
              generalize hq1 : pb ++ segBytes d.segs (j + 1) = q1 at *
              have HQ1 := Lib.hid hq1
              clear hq1
              go_wp2_with fail
              refine (refPut_any _ _ _ (by decide)).mono ?_
              rintro e w5 ⟨rfl, hb⟩
              have HF5 := Lib.hid (HF.out.below hb)
              clear hb c9
              go_wp2_with fail
              clear radd
              go_roundw
              case rel => exact ⟨j + 1, by omega, by go_num, by rw [HQ1.out], HF5.out⟩
              case measure => simp only [intOf]; omega
          · obtain rfl : j = 40 := by omega
            rw [← HSN.out]
            have HBF := Lib.hid (HB.out.trans (HF.out.bel.mono HB.out.size))
            go_wp2_with fail
            go_roundw
            case rel => exact ⟨k + 1, by omega, by go_num, rfl, HBF.out⟩
            case measure => simp only [intOf]; omega
    · obtain rfl : k = 16 := by omega
      have HPL : Hid ((tabFront num (L.take 16)).length = 1626) := by
        unfold Hid
        rw [tabFront_len, List.length_take, HL.out, List.length_map, H16.out]; rfl
      have HTB : Hid (tabFront num (L.take 16) ++ List.replicate 418 0 = tabBytes num L) := by
        unfold Hid tabBytes
        rw [List.take_of_length_le (by rw [HL.out, List.length_map, H16.out]; exact Nat.le_refl _)]
      have HTL : Hid ((tabBytes num L).length = 2044) := by
        unfold Hid
        rw [← HTB.out, List.length_append, HPL.out, List.length_replicate]
      generalize tabFront num (L.take 16) = s at *
      have hpl := HPL.out
      obtain ⟨Z, hZ⟩ : ∃ Z, Z = List.replicate 418 (0 : UInt8) := ⟨_, rfl⟩
      have hZl : Z.length = 418 := by rw [hZ, List.length_replicate]
      have hm : ∀ W : World, (Instr.makeSlice 38 (.int .i64 418) (.int .i64 418)).run Try.prog W = .ok (.slice (some ⟨W.heap.size, 0, none⟩) 418 418) (W.alloc (.cells (bc Z) 5)) := fun W => by rw [hZ]; exact mk38 418 (by decide) W
      have hcv := fun W : World => conv_new W Z 418 hZl.symm
      have hadd : ∀ W : World, (Op.stringOp .add (bs s) (bs Z)).run Try.prog W = .ok (.string (bs (tabBytes num L))) W := fun W => by
        rw [← HTB.out, ← hZ]
        exact add_bs s Z W (by rw [HPL.out, hZl]; decide)
      have HBE := Lib.hid (HB.out.alloc HB.out.size (.cells (bc Z) 5))
      clear hZ hZl HTB
      go_upto_region 18 with fail
      clear hm hcv hadd hpl
      generalize wk.alloc (.cells (bc Z) 5) = W5 at *
      generalize hTT : tabBytes num L = T at *
      have HTT := Lib.hid hTT
      clear hTT
      have htl := HTL.out
      go_wp2_with fail
      refine (refOf_any T _ (by omega)).mono ?_
      rintro e w6 ⟨rfl, rfl⟩
      have hcb := crcOf_bd T
      generalize hxx : crcOf T = x at *
      have HXX := Lib.hid hxx
      clear hxx
      have hxm : x % 4294967296 = x := Int.emod_eq_of_lt hcb.1 (by have := hcb.2; rw [show (256 : Int) ^ 4 = 4294967296 from rfl] at this; exact this)
      have hx2 : x < 4294967296 := by have := hcb.2; rw [show (256 : Int) ^ 4 = 4294967296 from rfl] at this; exact this
      have hx0 := hcb.1
      clear hcb
      go_wp2_with fail
      refine (refPut_any _ _ _ (by decide)).mono ?_
      rintro e w7 ⟨rfl, hb⟩
      have HB7 := Lib.hid (HBE.out.trans (hb.mono HBE.out.size))
      clear hb
      have hadd : ∀ W : World, (Op.stringOp .add (bs T) (bs (putB x 4))).run Try.prog W = .ok (.string (bs (T ++ putB x 4))) W := fun W => add_bs T (putB x 4) W (by rw [putB_length, HTL.out]; decide)
      go_wp2_with fail
      go_ret2
      exact ⟨by rw [HTT.out, HXX.out]; rfl, HB7.out⟩
set_option maxRecDepth 100000 in
set_option maxHeartbeats 8000000 in
theorem rtput_no (num : Int) (v : Value) (l : List HM) (w : World) (hr : HReads w v l) (hl : l.length ≤ 100000) (hls : ∀ h ∈ l, h.d.segs.length ≤ 140737488351232) (hn : ¬ (inB num 0 1099511627776 = true ∧ tableB 65536 (l.map (·.d)) = true)) :
    Calls Try.prog 43 #[.int .i64 num, v] w fun e w' => e = .returned (.tuple #[.string (bs []), .bool false]) ∧ Below w.heap.size w w' := by
  have hr' := hr.1
  obtain ⟨A, c, rfl, hc, -⟩ := hr'
  have HR := Lib.hid hr
  have HB0 := Lib.hid (Below.refl w.heap.size w)
  clear hr
  have hbe : Value.string (bs []) = Value.string ⟨#[]⟩ := rfl
  rw [hbe]
  clear hbe
  by_cases h0 : num < 0
  · clear hn
    go_enter Try.func43, Try.ntmps43
    go_wp2_with fail
    go_ret2
    exact ⟨rfl, HB0.out⟩
  · by_cases h1 : 1099511627776 < num
    · clear hn
      go_enter Try.func43, Try.ntmps43
      go_wp2_with fail
      go_ret2
      exact ⟨rfl, HB0.out⟩
    · have hf : tableB 65536 (l.map (·.d)) = false := by
        rw [Bool.eq_false_iff]; intro h; exact hn ⟨inB_true (by omega) (by omega), h⟩
      have HF := Lib.hid hf
      clear hn hf
      go_enter Try.func43, Try.ntmps43
      go_wp2_with fail
      refine (rcheck_any 65536 _ l _ HR.out hl hls).mono ?_
      rw [HF.out]
      rintro e w1 ⟨rfl, hb⟩
      have HB1 := Lib.hid hb
      clear hb
      go_wp2_with fail
      go_ret2
      exact ⟨rfl, HB1.out⟩
end
theorem rtput_any (num : Int) (v : Value) (l : List HM) (w : World) (hr : HReads w v l) (hl : l.length ≤ 100000) (hls : ∀ h ∈ l, h.d.segs.length ≤ 140737488351232) :
    Calls Try.prog 43 #[.int .i64 num, v] w fun e w' => e = .returned (putAns (tablePut num (l.map (·.d)))) ∧ Below w.heap.size w w' := by
  by_cases h : inB num 0 1099511627776 = true ∧ tableB 65536 (l.map (·.d)) = true
  · rw [show tablePut num (l.map (·.d)) = some (tabBytes num (l.map (·.d)) ++ putB (crcOf (tabBytes num (l.map (·.d)))) 4) from if_pos h]
    exact rtput_yes num v l _ w hr rfl hl hls h.1 h.2
  · rw [show tablePut num (l.map (·.d)) = none from if_neg h]
    exact rtput_no num v l w hr hl hls h
end Go.Proofs.Ytjoplgdcpihmaaa
