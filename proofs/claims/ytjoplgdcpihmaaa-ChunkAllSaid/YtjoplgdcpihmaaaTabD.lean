/- Which houses may be (table.Check). -/
import Derived.Test.YtjoplgdcpihmaaaTabM
import Derived.Carry
namespace Go.Proofs.Ytjoplgdcpihmaaa
open Go.RowKit Go.Maps

theorem HReads.cells {w : World} {v : Value} {l : List HM} (h : HReads w v l) (k : Nat) (x : HM) (hi : l[k]? = some x) : ∃ b o c, v = .slice (some ⟨b, o, none⟩) l.length c ∧ b < w.heap.size ∧ EI.Reads w (.slice x.A x.d.segs.length x.c) x.d.segs ∧
    w.cell? ⟨b, o + k * 10, none⟩ = some (.int .i64 x.d.st) ∧ w.cell? ⟨b, o + k * 10 + 1, none⟩ = some (.int .i64 x.d.gn) ∧ w.cell? ⟨b, o + k * 10 + 2, none⟩ = some (.int .i64 x.d.x.sg) ∧ w.cell? ⟨b, o + k * 10 + 3, none⟩ = some (.int .i64 x.d.x.hb) ∧ w.cell? ⟨b, o + k * 10 + 4, none⟩ = some (.int .i64 x.d.x.sb) ∧ w.cell? ⟨b, o + k * 10 + 5, none⟩ = some (.int .i64 x.d.x.hn) ∧ w.cell? ⟨b, o + k * 10 + 6, none⟩ = some (.int .i64 x.d.x.sn) ∧ w.cell? ⟨b, o + k * 10 + 7, none⟩ = some (.int .i64 x.d.x.gr) ∧ w.cell? ⟨b, o + k * 10 + 8, none⟩ = some (.int .i64 x.d.x.bu) ∧ w.cell? ⟨b, o + k * 10 + 9, none⟩ = some (.slice x.A x.d.segs.length x.c) := by
  obtain ⟨b, o, c, h1, h2, h3, h4⟩ := h.at k x hi
  have g : ∀ j u, (encH x)[j]? = some u → w.cell? ⟨b, o + k * 10 + j, none⟩ = some u := fun j u hu => by rw [Nat.add_assoc]; exact h3 j u hu
  exact ⟨b, o, c, h1, h2, h4, g 0 _ rfl, g 1 _ rfl, g 2 _ rfl, g 3 _ rfl, g 4 _ rfl, g 5 _ rfl, g 6 _ rfl, g 7 _ rfl, g 8 _ rfl, g 9 _ rfl⟩
theorem Seen.update {w : World} {b : Nat} {S : List Int} (h : Seen w b S) (hn : S.length < 1000000) (s : Int) (hs : (Lit.int .i64 s).wf = true) {ops : Array Oper} {rest : List Oper} {o : Oper} {a : Act} {Q : Exit → Act → World → Prop}
    (hg : o.guard = none) (m x v : Operand) (hop : o.op = Op.mapUpdate 138 m x v) (hm : a.eval m = .map (some b)) (hx : a.eval x = .int .i64 s) (hv : a.eval v = .bool true)
    (hK : ∀ w', Seen w' b (S ++ [s]) → w.grownBy w' (some b) → wpList Try.prog ops Q rest (a.put o.dst undef) w') : wpList Try.prog ops Q (o :: rest) a w := by
  refine wpList_mapUpdate_own w hg m x v 138 hop 3 4 seenLaw under138 _ b S.length _ hm h (by unfold maxLen; omega) _ _ _ hx hv (keyOf_int_mk Try.underlying3 hs) _ _ (plainElem_bool Try.underlying4 true) ?_
  intro w' h1 h2
  refine hK w' ?_ h2
  unfold Seen keys at *
  rw [List.map_append, List.map_cons, List.map_nil, setOf_snoc, List.length_append]
  exact h1
/-- The houses ahead of k may be. -/
def preOk (many : Int) (L : List HD) (k : Nat) : Prop := (∀ j d, j < k → L[j]? = some d → hdB many d = true) ∧ ∀ j d, j < k → L[j]? = some d → ∀ s ∈ d.segs, ¬ s ∈ flat (L.take j)
theorem preOk_zero (many : Int) (L : List HD) : preOk many L 0 := ⟨fun j d hj => by omega, fun j d hj => by omega⟩
theorem preOk_succ {many : Int} {L : List HD} {k : Nat} {d : HD} (h : preOk many L k) (hd : L[k]? = some d) (h1 : hdB many d = true) (h2 : ∀ s ∈ d.segs, ¬ s ∈ flat (L.take k)) : preOk many L (k + 1) := by
  refine ⟨fun j e hj he => ?_, fun j e hj he => ?_⟩
  · rcases Nat.lt_or_ge j k with hlt | hge
    · exact h.1 j e hlt he
    · obtain rfl : j = k := by omega
      rw [hd] at he; cases he; exact h1
  · rcases Nat.lt_or_ge j k with hlt | hge
    · exact h.2 j e hlt he
    · obtain rfl : j = k := by omega
      rw [hd] at he; cases he; exact h2
theorem preOk_all {many : Int} {L : List HD} (h16 : L.length = 16) (h : preOk many L 16) : tableB many L = true := by
  refine tableB_yes ⟨h16, fun d hd => ?_, fun k hk s hs => ?_⟩
  · obtain ⟨j, hj, rfl⟩ := List.getElem_of_mem hd
    exact h.1 j _ (by omega) (List.getElem?_eq_getElem hj)
  · rw [List.getElem?_eq_getElem hk] at hs
    exact h.2 k _ (by omega) (List.getElem?_eq_getElem hk) s hs
theorem bad_house {many : Int} {L : List HD} {k : Nat} {d : HD} (hd : L[k]? = some d) (h : hdB many d = false) : tableB many L = false :=
  tableB_no fun hh => by rw [hh.2.1 d (List.mem_of_getElem? hd)] at h; cases h
theorem bad_twice {many : Int} {L : List HD} {k : Nat} {d : HD} (hd : L[k]? = some d) (s : Int) (hs : s ∈ d.segs) (h : s ∈ flat (L.take k)) : tableB many L = false :=
  tableB_no fun hh => hh.2.2 k (List.getElem?_eq_some_iff.1 hd).1 s (by rw [hd]; exact hs) h
theorem bad_many {many : Int} {L : List HD} (h : L.length ≠ 16) : tableB many L = false := tableB_no fun hh => h hh.1
theorem nthI_mem {l : List Int} {j : Nat} (h : j < l.length) : nthI l j ∈ l := by
  simp only [nthI, List.getD_eq_getElem?_getD, List.getElem?_eq_getElem h, Option.getD_some]; exact List.getElem_mem h
theorem takeI_snoc (l : List Int) (j : Nat) (h : j < l.length) : l.take (j + 1) = l.take j ++ [nthI l j] := by
  rw [List.take_succ_eq_append_getElem h]; simp only [nthI, List.getD_eq_getElem?_getD, List.getElem?_eq_getElem h, Option.getD_some]
theorem house_val (many : Int) (d : HD) (v : Value) (r : Bool) (w : World) (hr : EI.Reads w v d.segs) (hl : d.segs.length ≤ 140737488351232) (h : hdB many d = r) :
    Calls Try.prog 107 #[.int .i64 many, .agg #[.int .i64 d.st, .int .i64 d.gn, .int .i64 d.x.sg, .int .i64 d.x.hb, .int .i64 d.x.sb, .int .i64 d.x.hn, .int .i64 d.x.sn, .int .i64 d.x.gr, .int .i64 d.x.bu, v]] w fun e w' => e = .returned (.bool r) ∧ Below w.heap.size w w' := h ▸ house_any many d.st d.gn d.x v d.segs w hr hl
section
set_option maxRecDepth 100000 in
set_option maxHeartbeats 4000000 in
theorem tcheck_any (many : Int) (v : Value) (l : List HM) (w : World) (hr : HReads w v l) (hm : many ≤ 9223372036854775807) (hl : l.length ≤ 100000) (hls : ∀ h ∈ l, h.d.segs.length ≤ 140737488351232) :
    Calls Try.prog 48 #[.int .i64 many, v] w fun e w' => e = .returned (.bool (tableB many (l.map (·.d)))) ∧ Below w.heap.size w w' := by
  have hr' := hr.1
  obtain ⟨A, c, rfl, hc, -⟩ := hr'
  have HR := Lib.hid hr
  clear hr
  by_cases h16 : l.length = 16
  · have hd16 : ((l.length : Int) != 16) = false := by rw [h16]; decide
    have H16 := Lib.hid h16
    have hl16 : (l.length : Int) ≤ 16 := by omega
    have hl16' : (16 : Int) ≤ (l.length : Int) := by omega
    have hmm := @run_makeMap Try.prog
    clear h16
    go_enter Try.func48, Try.ntmps48
    go_wp2
    clear hmm
    go_loopw [16] (fun i wr => ∃ k : Nat, k ≤ l.length ∧ i = .int .i64 k ∧ Below w.heap.size w wr ∧ Seen wr w.heap.size (flat ((l.map (·.d)).take k)) ∧ preOk many (l.map (·.d)) k ∧ (flat ((l.map (·.d)).take k)).length ≤ 40 * k) (fun i _ => l.length - (intOf i).toNat)
    case atStart => exact ⟨0, by omega, rfl, (Below.refl _ _).alloc (Nat.le_refl _) _, Seen.made w, preOk_zero _ _, by simp [flat]⟩
    case round =>
      obtain ⟨k, hk, rfl, hb, hsn, hpre, hfl⟩ := hrel
      have HB := Lib.hid hb
      have HS := Lib.hid hsn
      have HP := Lib.hid hpre
      have HFL := Lib.hid hfl
      clear hb hsn hpre hfl
      by_cases hlt : k < l.length
      · obtain ⟨⟨d, XA, xc⟩, hx⟩ : ∃ x, l[k]? = some x := ⟨_, List.getElem?_eq_getElem hlt⟩
        have HXD : Hid ((l.map (·.d))[k]? = some d) := by unfold Hid; rw [List.getElem?_map, hx]; rfl
        have HXL : Hid (d.segs.length ≤ 140737488351232) := hls _ (List.mem_of_getElem? hx)
        obtain ⟨b, o, c', hv, hbw, hri, k0, k1, k2, k3, k4, k5, k6, k7, k8, k9⟩ := (HR.out.below HB.out).cells k _ hx
        simp only [Value.slice.injEq] at hv
        obtain ⟨rfl, -, rfl⟩ := hv
        simp only at hri k0 k1 k2 k3 k4 k5 k6 k7 k8 k9
        have HRI := Lib.hid hri
        have HRW := Lib.hid (HR.out.2 _ (List.mem_of_getElem? hx))
        clear hri hx
        have hb0 : w.heap.size < wr.heap.size := HS.out.lt
        cases hcb : hdB many d with
        | false =>
          have HN : Hid (tableB many (l.map (·.d)) = false) := bad_house HXD.out hcb
          have HCB := Lib.hid hcb
          clear hcb
          have HA := Lib.hid ((Below.refl wr.heap.size wr).alloc (Nat.le_refl _) (.cells #[.int .i64 d.st, .int .i64 d.gn, .int .i64 d.x.sg, .int .i64 d.x.hb, .int .i64 d.x.sb, .int .i64 d.x.hn, .int .i64 d.x.sn, .int .i64 d.x.gr, .int .i64 d.x.bu, .slice XA d.segs.length xc] 61))
          go_wp2_with fail
          refine (house_val many d _ false _ (HRI.out.below HA.out) HXL.out HCB.out).mono ?_
          rintro e w1 ⟨rfl, hb⟩
          have HB1 : Hid (Below w.heap.size w w1) := (HB.out.trans (HA.out.mono HB.out.size)).trans (hb.mono (HB.out.trans (HA.out.mono HB.out.size)).size)
          clear hb
          go_wp2
          go_ret
          exact ⟨ret_bool HN.out.symm, HB1.out⟩
        | true =>
          have HCB := Lib.hid hcb
          have h40 := house_len hcb
          clear hcb
          have HA := Lib.hid ((Below.refl wr.heap.size wr).alloc (Nat.le_refl _) (.cells #[.int .i64 d.st, .int .i64 d.gn, .int .i64 d.x.sg, .int .i64 d.x.hb, .int .i64 d.x.sb, .int .i64 d.x.hn, .int .i64 d.x.sn, .int .i64 d.x.gr, .int .i64 d.x.bu, .slice XA d.segs.length xc] 61))
          have KC := Lib.hid (cell_of_row _ _ 9 _ _ _ (heap_alloc_new wr (.cells #[.int .i64 d.st, .int .i64 d.gn, .int .i64 d.x.sg, .int .i64 d.x.hb, .int .i64 d.x.sb, .int .i64 d.x.hn, .int .i64 d.x.sn, .int .i64 d.x.gr, .int .i64 d.x.bu, .slice XA d.segs.length xc] 61)))
          have K0 : Hid (wr.heap.size < (wr.alloc (.cells #[.int .i64 d.st, .int .i64 d.gn, .int .i64 d.x.sg, .int .i64 d.x.hb, .int .i64 d.x.sb, .int .i64 d.x.hn, .int .i64 d.x.sn, .int .i64 d.x.gr, .int .i64 d.x.bu, .slice XA d.segs.length xc] 61)).heap.size) := by unfold Hid; simp
          go_wp2_with fail
          refine (house_val many d _ true _ (HRI.out.below HA.out) HXL.out HCB.out).mono ?_
          rintro e w1 ⟨rfl, hb⟩
          have HB1 : Hid (Below w.heap.size w w1) := (HB.out.trans (HA.out.mono HB.out.size)).trans (hb.mono (HB.out.trans (HA.out.mono HB.out.size)).size)
          have HBW : Hid (Below wr.heap.size wr w1) := HA.out.trans (hb.mono HA.out.size)
          have e9 : w1.cell? ⟨wr.heap.size, 9, none⟩ = some (.slice XA d.segs.length xc) := (hb.cell (p := ⟨wr.heap.size, 9, none⟩) K0.out).trans KC.out
          have HS1 := Lib.hid (HS.out.below HBW.out)
          clear hb
          go_wp2
          clear e9
          go_loopw [27, 9] (fun i _ wi => ∃ j : Nat, j ≤ d.segs.length ∧ i = .int .i64 j ∧ Below w.heap.size w wi ∧ Seen wi w.heap.size (flat ((l.map (·.d)).take k) ++ d.segs.take j) ∧ ∀ i, i < j → ¬ nthI d.segs i ∈ flat ((l.map (·.d)).take k)) (fun i _ _ => d.segs.length - (intOf i).toNat)
          case atStart => exact ⟨0, by omega, rfl, HB1.out, by rw [List.take_zero, List.append_nil]; exact HS1.out, fun i hi => by omega⟩
          clear HS1 HBW HB1
          case round =>
            obtain ⟨j, hj, rfl, hb1, hs1, hn1⟩ := hrel
            have HB1 := Lib.hid hb1
            have HS1 := Lib.hid hs1
            have HN1 := Lib.hid hn1
            clear hb1 hs1 hn1
            by_cases hjl : j < d.segs.length
            · obtain ⟨b', o', c', hv, hbw', e0⟩ := EI_at (HRW.out.below HB1.out) j hjl
              simp only [Value.slice.injEq] at hv
              obtain ⟨rfl, -, rfl⟩ := hv
              have hseg := house_seg HCB.out j hjl
              have hwf : (Lit.int .i64 (nthI d.segs j)).wf = true := WalkArith.wf_i64 (by omega)
              have HW := Lib.hid hwf
              have hni := ris_notin (house_ris HCB.out) j hjl
              have hmem := nthI_mem hjl
              have htk := takeI_snoc d.segs j hjl
              have hlook := HS1.out.look _ hwf
              by_cases hin : nthI d.segs j ∈ flat ((l.map (·.d)).take k)
              · have hd : decide (nthI d.segs j ∈ flat ((l.map (·.d)).take k) ++ d.segs.take j) = true := by simp [hin]
                have HN : Hid (tableB many (l.map (·.d)) = false) := bad_twice HXD.out _ hmem hin
                rw [hd] at hlook
                clear hd hin hmem hni htk hwf
                go_wp2
                go_ret
                exact ⟨ret_bool HN.out.symm, HB1.out⟩
              · have hd : decide (nthI d.segs j ∈ flat ((l.map (·.d)).take k) ++ d.segs.take j) = false := by simp [hin, hni]
                have HN2 : Hid (∀ i, i < j + 1 → ¬ nthI d.segs i ∈ flat ((l.map (·.d)).take k)) := fun i hi => by
                  rcases Nat.lt_or_ge i j with h | h
                  · exact HN1.out i h
                  · obtain rfl : i = j := by omega
                    exact hin
                have HTK : Hid (flat ((l.map (·.d)).take k) ++ d.segs.take (j + 1) = flat ((l.map (·.d)).take k) ++ d.segs.take j ++ [nthI d.segs j]) := by unfold Hid; rw [htk, List.append_assoc]
                have HLN : Hid ((flat ((l.map (·.d)).take k) ++ d.segs.take j).length < 1000000) := by unfold Hid; rw [List.length_append, List.length_take]; have := HFL.out; omega
                rw [hd] at hlook
                clear hd hin hmem hni htk hwf
                go_wp2_with (at_mapUpdate; refine HS1.out.update HLN.out _ HW.out rfl _ _ _ rfl rfl rfl rfl ?_; intro w2 hs2 hg; have HS2 := Lib.hid hs2; have HB2 := Lib.hid (HB1.out.grown hg HB1.out.size (fun k e => by injection e; omega)); clear hs2 hg)
                go_roundw
                case rel => exact ⟨j + 1, by omega, by go_num, HB2.out, by rw [HTK.out]; exact HS2.out, HN2.out⟩
                case measure => simp only [intOf]; omega
            · have HJ : Hid (j = d.segs.length) := by unfold Hid; omega
              have HS2 : Hid (Seen wr w.heap.size (flat ((l.map (·.d)).take (k + 1)))) := by
                unfold Hid
                rw [flat_snoc _ k d HXD.out]
                have := HS1.out
                rw [HJ.out, List.take_length] at this
                exact this
              have HP2 : Hid (preOk many (l.map (·.d)) (k + 1)) := preOk_succ HP.out HXD.out HCB.out (fun s hs => by
                obtain ⟨i, hi, rfl⟩ := List.getElem_of_mem hs
                have := HN1.out i (by have := HJ.out; omega)
                simpa only [nthI, List.getD_eq_getElem?_getD, List.getElem?_eq_getElem hi, Option.getD_some] using this)
              have HF2 : Hid ((flat ((l.map (·.d)).take (k + 1))).length ≤ 40 * (k + 1)) := by unfold Hid; rw [flat_snoc _ k d HXD.out, List.length_append]; have := HFL.out; omega

              go_wp2
              go_roundw
              case rel => exact ⟨k + 1, by omega, by go_num, HB1.out, HS2.out, HP2.out, HF2.out⟩
              case measure => simp only [intOf]; omega
      · have HN : Hid (tableB many (l.map (·.d)) = true) := by
          have hk16 : k = 16 := by have := H16.out; omega
          subst hk16
          exact preOk_all (by rw [List.length_map]; exact H16.out) HP.out
        go_wp2
        go_ret
        exact ⟨ret_bool HN.out.symm, HB.out⟩
  · have hd16 : ((l.length : Int) != 16) = true := by rw [bne_iff_ne]; omega
    have HN : Hid (tableB many (l.map (·.d)) = false) := bad_many (by rw [List.length_map]; exact h16)
    clear h16
    go_enter Try.func48, Try.ntmps48
    go_wp2
    go_ret
    exact ⟨ret_bool HN.out.symm, Below.refl _ _⟩
end
end Go.Proofs.Ytjoplgdcpihmaaa
