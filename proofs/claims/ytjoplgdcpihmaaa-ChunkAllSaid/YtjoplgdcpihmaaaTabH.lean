/- The table's bytes (table.Put). -/
import Derived.Test.YtjoplgdcpihmaaaTabG
import Derived.Deep.RegionLaw
namespace Go.Proofs.Ytjoplgdcpihmaaa
open Go.RowKit

def tabHead (num : Int) : List UInt8 := [66, 71, 84, 66] ++ putB num 6
def tabFront (num : Int) (L : List HD) : List UInt8 := tabHead num ++ L.flatMap houseBytes
def tabBytes (num : Int) (L : List HD) : List UInt8 := tabFront num L ++ List.replicate 418 0
def tablePut (num : Int) (L : List HD) : Option (List UInt8) :=
  if inB num 0 1099511627776 = true ∧ tableB 65536 L = true then some (tabBytes num L ++ putB (crcOf (tabBytes num L)) 4) else none
theorem tabHead_len (num : Int) : (tabHead num).length = 10 := by
  unfold tabHead; rw [List.length_append, putB_length]; rfl
theorem tabFront_len (num : Int) (L : List HD) : (tabFront num L).length = 10 + 101 * L.length := by
  unfold tabFront
  rw [List.length_append, tabHead_len]
  congr 1
  induction L with
  | nil => rfl
  | cons d L ih => rw [List.flatMap_cons, List.length_append, ih, houseBytes_len, List.length_cons]; omega
theorem tabFront_snoc (num : Int) (L : List HD) (k : Nat) (d : HD) (h : L[k]? = some d) : tabFront num (L.take (k + 1)) = tabFront num (L.take k) ++ houseBytes d := by
  obtain ⟨hk, rfl⟩ := List.getElem?_eq_some_iff.1 h
  unfold tabFront
  rw [List.take_succ_eq_append_getElem hk, List.flatMap_append, List.flatMap_singleton, List.append_assoc]
theorem table_len {many : Int} {L : List HD} (h : tableB many L = true) : L.length = 16 := (of_decide_eq_true h).1
theorem table_house {many : Int} {L : List HD} (h : tableB many L = true) (d : HD) (hd : d ∈ L) : hdB many d = true := (of_decide_eq_true h).2.1 d hd
theorem BO.ne_of {W : World} {base : Nat} {v : Value} {l : List UInt8} (h : BO W base v l) (hl : 0 < l.length) {b : Nat} {u : Value} (hc : W.cell? ⟨b, 0, none⟩ = some u) (hu : ∀ x, u ≠ .int .u8 x) : some b ≠ v.ownBlock := by
  obtain ⟨g, cap, rfl, h1, h2, h3, h4, h5, h6⟩ := h
  intro e
  simp only [Value.ownBlock, Option.some.injEq] at e
  subst e
  rw [h6 0 hl] at hc
  injection hc with hc
  exact hu _ hc.symm
theorem block_bo {W W' : World} {base : Nat} {v : Value} {l : List UInt8} (h : BO W base v l) (hl : 0 < l.length) (hg : W.grownBy W' v.ownBlock) {b : Nat} {C : Array Value} {t : TypeId} {u : Value} (hb : W.heap[b]? = some (.cells C t (0, 0))) (hc : C[0]? = some u) (hu : ∀ x, u ≠ .int .u8 x) : W'.heap[b]? = some (.cells C t (0, 0)) := by
  rw [hg.block b (lt_of_block hb) (h.ne_of hl ((cell_of_row _ _ 0 _ _ _ hb).trans hc) hu)]; exact hb
theorem FldSt.bo {W W' : World} {base : Nat} {v : Value} {l : List UInt8} {b : Nat} {g : Nat → Nat} (hF : FldSt W b g) (h : BO W base v l) (hl : 0 < l.length) (hg : W.grownBy W' v.ownBlock) : FldSt W' b g :=
  ⟨block_bo h hl hg hF.1 rfl (fun _ e => by cases e), fun i hi => block_bo h hl hg (hF.2 i hi) rfl (fun _ e => by cases e)⟩
theorem grown_below {w W W' : World} {base : Nat} {v : Value} {l : List UInt8} (hb : Below base w W) (h : BO W base v l) (hg : W.grownBy W' v.ownBlock) (hz : base ≤ W.heap.size) : Below base w W' := hb.grown hg hz (fun k e => (h.lt k e).1)
theorem fldNb_le (q : Nat) : (fldNb q).toNat ≤ 6 := by
  unfold fldNb
  split <;> decide
theorem BO.form {W : World} {base : Nat} {v : Value} {l : List UInt8} (h : BO W base v l) (n : Nat) (hn : l.length = n) : ∃ g cap, v = .slice (some ⟨g, 0, none⟩) n cap := by
  obtain ⟨g, cap, rfl, -⟩ := h
  exact ⟨g, cap, by rw [hn]⟩
section
attribute [local go_sem] bs_size bs_append List.length_append
attribute [local go_sem ↓] Go.wp_at_zero Go.wp_at_succ
set_option maxRecDepth 100000 in
set_option maxHeartbeats 8000000 in
theorem tput_yes (num : Int) (v : Value) (l : List HM) (w : World) (hr : HReads w v l) (hl : l.length ≤ 100000) (hls : ∀ h ∈ l, h.d.segs.length ≤ 140737488351232) (hn : inB num 0 1099511627776 = true) (ht : tableB 65536 (l.map (·.d)) = true) :
    Calls Try.prog 41 #[.int .i64 num, v] w fun e w' => e = .returned (.tuple #[.string (bs (tabBytes num (l.map (·.d)) ++ putB (crcOf (tabBytes num (l.map (·.d)))) 4)), .bool true]) ∧ Below w.heap.size w w' := by
  have hr' := hr.1
  obtain ⟨A, c, rfl, hc, -⟩ := hr'
  have HR := Lib.hid hr
  have h16 : l.length = 16 := by have := table_len ht; rwa [List.length_map] at this
  have hl16 : (l.length : Int) ≤ 16 := by omega
  have hl16' : (16 : Int) ≤ (l.length : Int) := by omega
  have H16 := Lib.hid h16
  have HT := Lib.hid ht
  have HI := Lib.hid hn
  have hmk : ByteArray.mk #[66, 71, 84, 66] = bs [66, 71, 84, 66] := rfl
  have hp6 : (putB num 6).length = 6 := by rw [putB_length]; rfl
  clear hr h16 ht hn
  go_enter Try.func41, Try.ntmps41
  go_wp2_with fail
  refine (tin_val num 0 1099511627776 true _ HI.out).mono ?_
  rintro e w1 ⟨rfl, rfl⟩
  go_wp2_with fail
  refine (tcheck_any 65536 _ l _ HR.out (by decide) hl hls).mono ?_
  rw [HT.out]
  rintro e w1 ⟨rfl, hb⟩
  have HB := Lib.hid hb
  clear hb
  go_wp2_with fail
  refine (binPut_any num 6 _).mono ?_
  rintro e w2 ⟨rfl, hb⟩
  have HB' := Lib.hid (HB.out.trans (hb.mono HB.out.size))
  clear HB hb
  have HB := HB'
  clear HB'
  have hcv : ∀ W : World, (convert 9 38 (.string (bs (66 :: 71 :: 84 :: 66 :: putB num 6)))).run Try.prog W = .ok (.slice (some ⟨W.heap.size, 0, none⟩) (tabHead num).length (grownCap W (tabHead num).length 0 5)) (Lib.bytesWorld W 5 (bs (tabHead num))) := fun W => by
    have h1 := Lib.run_convert_string_bytes (P := Try.prog) W 9 38 5 (bs (tabHead num)) Try.underlying9 Try.underlying38 Try.underlying5
    rw [bs_size] at h1; exact h1
  have HBO := Lib.hid (BO.of_bytes (base := w.heap.size) w2 (tabHead num) HB.out.size (by rw [tabHead_len]; decide))
  have HBB := Lib.hid (HB.out.trans ((bytes_below w2 5 (bs (tabHead num))).mono HB.out.size))
  go_upto_region 4 with fail
  clear hcv hmk hp6
  generalize Value.slice (some ⟨w2.heap.size, 0, none⟩) (tabHead num).length (grownCap w2 (tabHead num).length 0 5) = bv0 at *
  generalize Lib.bytesWorld w2 5 (bs (tabHead num)) = W0 at *
  clear HB
  go_wp2_with fail
  go_loopw [6, 27] (fun bv i wr => ∃ k : Nat, k ≤ l.length ∧ i = .int .i64 k ∧ Below w.heap.size w wr ∧ BO wr w.heap.size bv (tabFront num ((l.map (·.d)).take k))) (fun _ i _ => l.length - (intOf i).toNat)
  case atStart => exact ⟨0, by omega, rfl, HBB.out, by simpa [tabFront] using HBO.out⟩
  clear HBB HBO
  case round =>
    obtain ⟨k, hk, rfl, hb, hbo⟩ := hrel
    obtain ⟨wk, rfl⟩ : ∃ wk, wk = wr := ⟨wr, rfl⟩
    have HB := Lib.hid hb
    have HBO := Lib.hid hbo
    clear hb hbo
    by_cases hlt : k < l.length
    · obtain ⟨⟨d, XA, xc⟩, hx⟩ : ∃ x, l[k]? = some x := ⟨_, List.getElem?_eq_getElem hlt⟩
      have HXD : Hid ((l.map (·.d))[k]? = some d) := by unfold Hid; rw [List.getElem?_map, hx]; rfl
      have HHB : Hid (hdB 65536 d = true) := table_house HT.out d (List.mem_of_getElem? HXD.out)
      have hseg40 := house_len HHB.out
      obtain ⟨b, o, c', hv, hbw, hri, k0, k1, k2, k3, k4, k5, k6, k7, k8, k9⟩ := (HR.out.below HB.out).cells k _ hx
      simp only [Value.slice.injEq] at hv
      obtain ⟨rfl, -, rfl⟩ := hv
      simp only at hri k0 k1 k2 k3 k4 k5 k6 k7 k8 k9
      have HRI := Lib.hid hri
      have HRW := Lib.hid (HR.out.2 _ (List.mem_of_getElem? hx))
      clear hri hx
      have HBA := Lib.hid (HB.out.alloc HB.out.size (.cells #[.int .i64 d.st, .int .i64 d.gn, .int .i64 d.x.sg, .int .i64 d.x.hb, .int .i64 d.x.sb, .int .i64 d.x.hn, .int .i64 d.x.sn, .int .i64 d.x.gr, .int .i64 d.x.bu, .slice XA d.segs.length xc] 61))
      have HOA := Lib.hid (HBO.out.alloc (.cells #[.int .i64 d.st, .int .i64 d.gn, .int .i64 d.x.sg, .int .i64 d.x.hb, .int .i64 d.x.sb, .int .i64 d.x.hn, .int .i64 d.x.sn, .int .i64 d.x.gr, .int .i64 d.x.bu, .slice XA d.segs.length xc] 61))
      have HHA := Lib.hid (heap_alloc_new wk (.cells #[.int .i64 d.st, .int .i64 d.gn, .int .i64 d.x.sg, .int .i64 d.x.hb, .int .i64 d.x.sb, .int .i64 d.x.hn, .int .i64 d.x.sn, .int .i64 d.x.gr, .int .i64 d.x.bu, .slice XA d.segs.length xc] 61))
      have hsA : wk.heap.size < (wk.alloc (.cells #[.int .i64 d.st, .int .i64 d.gn, .int .i64 d.x.sg, .int .i64 d.x.hb, .int .i64 d.x.sb, .int .i64 d.x.hn, .int .i64 d.x.sn, .int .i64 d.x.gr, .int .i64 d.x.bu, .slice XA d.segs.length xc] 61)).heap.size := by simp
      have HSA := Lib.hid hsA
      clear hsA
      go_wp2_with fail
      clear k0 k1 k2 k3 k4 k5 k6 k7 k8 k9
      refine (fields_any _).mono ?_
      rintro e w3 ⟨hb3, fb, g, hfb, hgs, hF, rfl⟩
      have HB3 := Lib.hid (HBA.out.trans (hb3.mono HBA.out.size))
      have HO3 := Lib.hid (HOA.out.below hb3)
      have HH3 := Lib.hid ((hb3.block _ HSA.out).trans HHA.out)
      have HF3 := Lib.hid hF
      have HS3 := Lib.hid (Nat.lt_of_lt_of_le HSA.out hb3.size)
      clear hb3 hF HBA HOA HHA hfb hgs
      have HLP : Hid ((tabFront num ((l.map (·.d)).take k)).length ≤ 2000) := by unfold Hid; rw [tabFront_len, List.length_take]; omega
      have HLQ : Hid (0 < (tabFront num ((l.map (·.d)).take k)).length) := by unfold Hid; rw [tabFront_len]; omega
      generalize hP : tabFront num ((l.map (·.d)).take k) = P at *
      go_wp2_with fail
      go_loopw [6, 33] (fun bw i wi => ∃ q : Nat, q ≤ 10 ∧ i = .int .i64 q ∧ Below w.heap.size w wi ∧ BO wi w.heap.size bw (P ++ fldBytes d q) ∧ wi.heap[wk.heap.size]? = some (.cells #[.int .i64 d.st, .int .i64 d.gn, .int .i64 d.x.sg, .int .i64 d.x.hb, .int .i64 d.x.sb, .int .i64 d.x.hn, .int .i64 d.x.sn, .int .i64 d.x.gr, .int .i64 d.x.bu, .slice XA d.segs.length xc] 61 (0, 0)) ∧ FldSt wi fb g) (fun _ i _ => 10 - (intOf i).toNat)
      case atStart => exact ⟨0, by omega, rfl, HB3.out, by rw [show fldBytes d 0 = [] from rfl, List.append_nil]; exact HO3.out, HH3.out, HF3.out⟩
      clear HB3 HO3 HH3 HF3 HS3
      case round =>
        obtain ⟨q, hq, rfl, hb, hbo, hh, hF⟩ := hrel
        have HB4 := Lib.hid hb
        have HO4 := Lib.hid hbo
        have HH4 := Lib.hid hh
        have HF4 := Lib.hid hF
        have HS4 := Lib.hid (lt_of_block hh)
        clear hb hbo hh hF
        by_cases hql : q < 10
        · obtain ⟨f, cap, f2, cap2, h1, h2, h3, hcf, hget⟩ := fld_get g q hql
          have HG := Lib.hid hget
          have HFL := Lib.hid (fldBytes_le d q)
          have e0 : wr.cell? ⟨fb, q * 3, none⟩ = some (.int .i64 (fldNb q)) := by rw [cell_of_row _ _ _ _ _ _ HF4.out.1, Nat.mul_comm]; exact h1
          have e1 : wr.cell? ⟨fb, q * 3 + 1, none⟩ = some (.func (.func f) #[] cap) := by rw [cell_of_row _ _ _ _ _ _ HF4.out.1, Nat.mul_comm]; exact h2
          have e2 : wr.cell? ⟨fb, q * 3 + 2, none⟩ = some (.func (.func f2) #[] cap2) := by rw [cell_of_row _ _ _ _ _ _ HF4.out.1, Nat.mul_comm]; exact h3
          clear hget h1 h2 h3
          have HGD : Hid (∀ W : World, FldSt W fb g → W.heap[wk.heap.size]? = some (.cells #[.int .i64 d.st, .int .i64 d.gn, .int .i64 d.x.sg, .int .i64 d.x.hb, .int .i64 d.x.sb, .int .i64 d.x.hn, .int .i64 d.x.sn, .int .i64 d.x.gr, .int .i64 d.x.bu, .slice XA d.segs.length xc] 61 (0, 0)) → Calls Try.prog f (#[.pointer (some ⟨wk.heap.size, 0, none⟩)] ++ cap) W fun e w' => e = .returned (.int .i64 (fldVal d q)) ∧ W = w') := fun W hF hh => HG.out W fb wk.heap.size ⟨d, XA, xc⟩ hF (fun j => cell_of_row _ _ j _ _ _ hh)
          have HCF := Lib.hid hcf
          clear HG hcf
          go_upto_region 10 with fail
          clear e0 e1 e2
          have hAl := (Below.refl wr.heap.size wr).alloc (Nat.le_refl _) (.cells #[.int .i64 (fldNb q), .func (.func f) #[] cap, .func (.func f2) #[] cap2] 134)
          have eA : ∀ j : Nat, (wr.alloc (.cells #[.int .i64 (fldNb q), .func (.func f) #[] cap, .func (.func f2) #[] cap2] 134)).cell? ⟨wr.heap.size, j, none⟩ = _ := fun j => cell_of_row _ _ j _ _ _ (heap_alloc_new wr _)
          generalize wr.alloc (.cells #[.int .i64 (fldNb q), .func (.func f) #[] cap, .func (.func f2) #[] cap2] 134) = W4 at *
          have HB5 := Lib.hid (HB4.out.trans (hAl.mono HB4.out.size)).drew
          have HO5 := Lib.hid (HO4.out.below hAl).drew
          have HH5 : Hid (W4.drew.heap[wk.heap.size]? = some (.cells #[.int .i64 d.st, .int .i64 d.gn, .int .i64 d.x.sg, .int .i64 d.x.hb, .int .i64 d.x.sb, .int .i64 d.x.hn, .int .i64 d.x.sn, .int .i64 d.x.gr, .int .i64 d.x.bu, .slice XA d.segs.length xc] 61 (0, 0))) := (hAl.block _ HS4.out).trans HH4.out
          have HF5 : Hid (FldSt W4.drew fb g) := HF4.out.below hAl.drew
          clear hAl
          go_region_law ((first
            | (refine step_clos f HCF.out _ _ _ (by rfl) (by rfl) cap (by rfl) _ (by rfl) _ (HGD.out _ HF5.out HH5.out) ?_; rintro e v1 ⟨rfl, rfl⟩; refine ⟨_, rfl, ?_⟩)
            | (go_simp; go_at_call 88; refine (binPut_any (fldVal d q) (fldNb q) _).mono ?_; rintro e v2 ⟨rfl, hb⟩; have HB6 := Lib.hid (HB5.out.trans (hb.mono HB5.out.size)); have HO6 := Lib.hid (HO5.out.below hb); have HH6 := Lib.hid ((hb.block _ (lt_of_block HH5.out)).trans HH5.out); have HF6 := Lib.hid (HF5.out.below hb); clear hb)
            | (refine BO.step_str HO6.out (putB (fldVal d q) (fldNb q)) HB6.out.size ?_ (by rfl) _ _ (by rfl) (by rfl) (by rfl) ?_; (rw [List.length_append, putB_length]; have := HLP.out; have := HFL.out; have := fldNb_le q; omega); intro v' w' ho hg; have HL6 : Hid (0 < (P ++ fldBytes d q).length) := (by unfold Hid; rw [List.length_append]; have := HLQ.out; omega); have HB7 := Lib.hid (grown_below HB6.out HO6.out hg HB6.out.size); have HO7 := Lib.hid ho; have HH7 := Lib.hid (block_bo HO6.out HL6.out hg HH6.out rfl (fun _ e => by cases e)); have HF7 := Lib.hid (HF6.out.bo HO6.out HL6.out hg); clear ho hg)
            | fail))
          all_goals
            go_wp2_with fail
            go_roundw
            case rel => exact ⟨q + 1, by omega, by go_num, HB7.out, by rw [fldBytes_succ, ← List.append_assoc]; exact HO7.out, HH7.out, HF7.out⟩
            case measure => simp only [intOf]; omega
        · have hq10 : q = 10 := by omega
          have HO4' := Lib.hid HO4.out
          unfold Hid at HO4'
          rw [hq10] at HO4'
          clear HO4
          have HO4 := Lib.hid HO4'
          clear HO4' hq10
          have HLF : Hid ((fldBytes d 10).length ≤ 70) := fldBytes_le d 10
          generalize hF10 : fldBytes d 10 = F at *
          go_wp2_with fail
          go_loopw [6, 46] (fun bw i wi => ∃ j : Nat, j ≤ 40 ∧ i = .int .i64 j ∧ Below w.heap.size w wi ∧ BO wi w.heap.size bw (P ++ F ++ segBytes d.segs j) ∧ wi.heap[wk.heap.size]? = some (.cells #[.int .i64 d.st, .int .i64 d.gn, .int .i64 d.x.sg, .int .i64 d.x.hb, .int .i64 d.x.sb, .int .i64 d.x.hn, .int .i64 d.x.sn, .int .i64 d.x.gr, .int .i64 d.x.bu, .slice XA d.segs.length xc] 61 (0, 0))) (fun _ i _ => 40 - (intOf i).toNat)
          case atStart => exact ⟨0, by omega, rfl, HB4.out, by rw [show segBytes d.segs 0 = [] from rfl, List.append_nil]; exact HO4.out, HH4.out⟩
          clear HB4 HO4 HH4 HF4 HS4
          case round =>
            obtain ⟨j, hj, rfl, hb, hbo, hh⟩ := hrel
            have HB5 := Lib.hid hb
            have HO5 := Lib.hid hbo
            have HH5 := Lib.hid hh
            have e9 := cell_of_row _ _ 9 _ _ _ hh
            clear hb hbo hh
            by_cases hjl : j < 40
            · have HLJ : Hid ((P ++ F ++ segBytes d.segs j).length + (putB (segAt d.segs j) 2).length ≤ 140737488355328) := by
                unfold Hid
                rw [List.length_append, List.length_append, segBytes_len, putB_length]
                have := HLP.out
                have := HLF.out
                omega
              have HL6 : Hid (0 < (P ++ F ++ segBytes d.segs j).length) := by unfold Hid; rw [List.length_append, List.length_append]; have := HLQ.out; omega
              by_cases hjs : j < d.segs.length
              · obtain ⟨b', o', c', hv, hbw', e0⟩ := EI_at (HRW.out.below HB5.out) j hjs
                simp only [Value.slice.injEq] at hv
                obtain ⟨rfl, -, rfl⟩ := hv
                have hsa : nthI d.segs j = segAt d.segs j := by unfold segAt; rw [if_pos hjs]
                rw [hsa] at e0
                clear hsa
                go_wp2_with fail
                refine (binPut_any (segAt d.segs j) 2 _).mono ?_
                rintro e v1 ⟨rfl, hb⟩
                have HB6 := Lib.hid (HB5.out.trans (hb.mono HB5.out.size))
                have HO6 := Lib.hid (HO5.out.below hb)
                have HH6 := Lib.hid ((hb.block _ (lt_of_block HH5.out)).trans HH5.out)
                clear hb
                go_wp2_with (at_builtin; refine BO.list_str HO6.out (putB (segAt d.segs j) 2) HB6.out.size HLJ.out rfl _ _ rfl rfl rfl ?_; intro v' w' ho hg; have HB7 := Lib.hid (grown_below HB6.out HO6.out hg HB6.out.size); have HO7 := Lib.hid ho; have HH7 := Lib.hid (block_bo HO6.out HL6.out hg HH6.out rfl (fun _ e => by cases e)); clear ho hg)
                go_roundw
                case rel => exact ⟨j + 1, by omega, by go_num, HB7.out, by rw [segBytes_succ, ← List.append_assoc]; exact HO7.out, HH7.out⟩
                case measure => simp only [intOf]; omega
              · have hsa : segAt d.segs j = 0 := by unfold segAt; rw [if_neg hjs]
                have HSA := Lib.hid hsa
                clear hsa
                go_wp2_with fail
                rw [← HSA.out]
                refine (binPut_any (segAt d.segs j) 2 _).mono ?_
                rintro e v1 ⟨rfl, hb⟩
                have HB6 := Lib.hid (HB5.out.trans (hb.mono HB5.out.size))
                have HO6 := Lib.hid (HO5.out.below hb)
                have HH6 := Lib.hid ((hb.block _ (lt_of_block HH5.out)).trans HH5.out)
                clear hb
                go_wp2_with (at_builtin; refine BO.list_str HO6.out (putB (segAt d.segs j) 2) HB6.out.size HLJ.out rfl _ _ rfl rfl rfl ?_; intro v' w' ho hg; have HB7 := Lib.hid (grown_below HB6.out HO6.out hg HB6.out.size); have HO7 := Lib.hid ho; have HH7 := Lib.hid (block_bo HO6.out HL6.out hg HH6.out rfl (fun _ e => by cases e)); clear ho hg)
                go_roundw
                case rel => exact ⟨j + 1, by omega, by go_num, HB7.out, by rw [segBytes_succ, ← List.append_assoc]; exact HO7.out, HH7.out⟩
                case measure => simp only [intOf]; omega
            · obtain rfl : j = 40 := by omega
              have HOE : Hid (P ++ F ++ segBytes d.segs 40 = tabFront num ((l.map (·.d)).take (k + 1))) := by
                unfold Hid
                rw [tabFront_snoc _ _ k d HXD.out, hP, List.append_assoc, ← hF10]; rfl
              go_wp2_with fail
              go_roundw
              case rel => exact ⟨k + 1, by omega, by go_num, HB5.out, by rw [← HOE.out]; exact HO5.out⟩
              case measure => simp only [intOf]; omega
    · have hk16 : k = 16 := by have := H16.out; omega
      have HO1 : Hid (BO wk w.heap.size u6 (tabFront num (l.map (·.d)))) := by
        have := HBO.out
        rw [hk16, List.take_of_length_le (by rw [List.length_map, H16.out]; exact Nat.le_refl _)] at this
        exact this
      have HLT : Hid ((tabFront num (l.map (·.d))).length = 1626) := by unfold Hid; rw [tabFront_len, List.length_map, H16.out]
      clear HBO hk16
      have HT2 : Hid (tabFront num (l.map (·.d)) ++ List.replicate 418 0 = tabBytes num (l.map (·.d))) := rfl
      generalize tabFront num (l.map (·.d)) = T at *
      generalize htb : tabBytes num (l.map (·.d)) = T2 at *
      have HTB : Hid (tabBytes num (l.map (·.d)) = T2) := htb
      clear htb
      obtain ⟨g, cap, rfl⟩ := HO1.out.form 1626 HLT.out
      go_wp2_with (at_builtin; refine BO.list_zeros HO1.out 418 (by decide) HB.out.size ?_ rfl _ _ rfl rfl rfl ?_; (rw [HLT.out]; decide); intro v' w' ho hg; have HB7 := Lib.hid (grown_below HB.out HO1.out hg HB.out.size); rw [HT2.out] at ho; have HO7 := Lib.hid ho; clear ho hg)
      have hu : 0 ≤ crcOf T2 ∧ crcOf T2 ≤ 4294967295 := vU_bd _
      have HL2 : Hid (T2.length ≤ 140737488351232) := by unfold Hid; rw [← HT2.out, List.length_append, HLT.out, List.length_replicate]; decide
      have HB := Lib.hid HB7.out.drew
      have HO := Lib.hid HO7.out.drew
      have hcv := HO.out.conv
      have HCR := Lib.hid (fun W => crcOf_any T2 W HL2.out)
      generalize hzz : crcOf T2 = z at *
      have HZ : Hid (crcOf T2 = z) := hzz
      clear hzz
      have hwz : IntKind.i64.wrap z = z := by rw [IntKind.wrap_i64]; omega
      have hp4 : (putB z 4).length = 4 := by rw [putB_length]; rfl
      have hL2 : T2.length = 2044 := by rw [← HT2.out, List.length_append, HLT.out, List.length_replicate]
      clear HB7 HO7 HO1 HR hls hc hl16 hl16' hl hu
      go_region_law ((first
        | (go_simp; go_at_call 98; refine (HCR.out _).mono ?_; rintro e v1 ⟨rfl, hb⟩; have HB' := Lib.hid (HB.out.trans (hb.mono HB.out.size)); have HO' := Lib.hid (HO.out.below hb); clear HB HO hb hcv; have HB := HB'; have HO := HO'; clear HB' HO'; have hcv := HO.out.conv)
        | (go_simp; go_at_call 88; refine (binPut_any z 4 _).mono ?_; rintro e v1 ⟨rfl, hb⟩; have HB' := Lib.hid (HB.out.trans (hb.mono HB.out.size)); have HO' := Lib.hid (HO.out.below hb); clear HB HO hb hcv; have HB := HB'; have HO := HO'; clear HB' HO'; have hcv := HO.out.conv)
        | fail))
      all_goals
        go_wp2
        refine bodyPost_ret (v := .tuple #[.string (bs (T2 ++ putB z 4)), .bool true]) (by simp [results, Try.results41, go_sem]) rfl ⟨?_, HB.out⟩
        rw [HTB.out, HZ.out]
set_option maxRecDepth 100000 in
set_option maxHeartbeats 4000000 in
theorem tput_no (num : Int) (v : Value) (l : List HM) (w : World) (hr : HReads w v l) (hl : l.length ≤ 100000) (hls : ∀ h ∈ l, h.d.segs.length ≤ 140737488351232) (h : ¬ (inB num 0 1099511627776 = true ∧ tableB 65536 (l.map (·.d)) = true)) :
    Calls Try.prog 41 #[.int .i64 num, v] w fun e w' => e = .returned (.tuple #[.string (bs []), .bool false]) ∧ Below w.heap.size w w' := by
  have hr' := hr.1
  obtain ⟨A, c, rfl, hc, -⟩ := hr'
  have HR := Lib.hid hr
  clear hr
  cases hn : inB num 0 1099511627776 with
  | false =>
    have HI := Lib.hid hn
    clear hn h
    go_enter Try.func41, Try.ntmps41
    go_wp2_with fail
    refine (tin_val num 0 1099511627776 false _ HI.out).mono ?_
    rintro e w1 ⟨rfl, rfl⟩
    go_wp2_with fail
    go_ret2
    exact ⟨rfl, Below.refl _ _⟩
  | true =>
    have HT : Hid (tableB 65536 (l.map (·.d)) = false) := by
      unfold Hid
      cases ht : tableB 65536 (l.map (·.d)) with
      | false => rfl
      | true => exact absurd ⟨hn, ht⟩ h
    have HI := Lib.hid hn
    clear hn h
    go_enter Try.func41, Try.ntmps41
    go_wp2_with fail
    refine (tin_val num 0 1099511627776 true _ HI.out).mono ?_
    rintro e w1 ⟨rfl, rfl⟩
    go_wp2_with fail
    refine (tcheck_any 65536 _ l _ HR.out (by decide) hl hls).mono ?_
    rw [HT.out]
    rintro e w1 ⟨rfl, hb⟩
    have HB := Lib.hid hb
    clear hb
    go_wp2_with fail
    go_ret2
    exact ⟨rfl, HB.out⟩
end
/-- The answer of Put, as it is told. -/
def putAns (r : Option (List UInt8)) : Value := .tuple #[.string (bs (r.getD [])), .bool r.isSome]
theorem tput_val (num : Int) (v : Value) (l : List HM) (w : World) (hr : HReads w v l) (hl : l.length ≤ 100000) (hls : ∀ h ∈ l, h.d.segs.length ≤ 140737488351232) (r : Option (List UInt8)) (h : tablePut num (l.map (·.d)) = r) :
    Calls Try.prog 41 #[.int .i64 num, v] w fun e w' => e = .returned (putAns r) ∧ Below w.heap.size w w' := by
  subst h
  by_cases h : inB num 0 1099511627776 = true ∧ tableB 65536 (l.map (·.d)) = true
  · have : tablePut num (l.map (·.d)) = some (tabBytes num (l.map (·.d)) ++ putB (crcOf (tabBytes num (l.map (·.d)))) 4) := if_pos h
    rw [this]
    exact tput_yes num v l w hr hl hls h.1 h.2
  · have : tablePut num (l.map (·.d)) = none := if_neg h
    rw [this]
    exact tput_no num v l w hr hl hls h
end Go.Proofs.Ytjoplgdcpihmaaa
