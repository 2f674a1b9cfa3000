/- What is put is got (tables): the plain law. -/
import Derived.Test.YtjoplgdcpihmaaaTabK
namespace Go.Proofs.Ytjoplgdcpihmaaa
open Go.RowKit

theorem getv_put (A B : List UInt8) (v n : Int) (hn : 0 ≤ n ∧ n ≤ 7) (h0 : 0 ≤ v) (h1 : v < 256 ^ n.toNat) (p : Int) (hp : p = A.length) : getv (A ++ putB v n ++ B) p n = v := by
  have hl : (putB v n).length = n.toNat := by rw [putB_length]; omega
  unfold getv getB
  rw [if_pos ⟨hn.1, hn.2, by omega, by rw [List.length_append, List.length_append, hl]; omega⟩, Option.getD_some, hp, Int.toNat_natCast, List.append_assoc, List.drop_left, List.take_left' hl]
  unfold putB
  rw [leN_leB, show (min n 7).toNat = n.toNat by omega, Int.emod_eq_of_lt h0 h1]
theorem fldNb_bd (q : Nat) : 0 ≤ fldNb q ∧ fldNb q ≤ 6 := by unfold fldNb; split <;> decide
theorem fldBytes_len (d : HD) (q : Nat) : ((fldBytes d q).length : Int) = nbs q := by
  induction q with
  | zero => rfl
  | succ q ih =>
    have := fldNb_bd q
    rw [fldBytes_succ, List.length_append, putB_length]
    simp only [nbs]; omega
theorem fld_split (d : HD) (q k : Nat) (h : q < k) : ∃ R, fldBytes d k = fldBytes d q ++ putB (fldVal d q) (fldNb q) ++ R := by
  induction k with
  | zero => omega
  | succ k ih =>
    rw [fldBytes_succ]
    rcases Nat.lt_or_ge q k with h2 | h2
    · obtain ⟨R, hR⟩ := ih h2
      exact ⟨R ++ putB (fldVal d k) (fldNb k), by rw [hR]; simp only [List.append_assoc]⟩
    · obtain rfl : q = k := by omega
      exact ⟨[], by rw [List.append_nil]⟩
theorem seg_split (l : List Int) (q k : Nat) (h : q < k) : ∃ R, segBytes l k = segBytes l q ++ putB (segAt l q) 2 ++ R := by
  induction k with
  | zero => omega
  | succ k ih =>
    rw [segBytes_succ]
    rcases Nat.lt_or_ge q k with h2 | h2
    · obtain ⟨R, hR⟩ := ih h2
      exact ⟨R ++ putB (segAt l k) 2, by rw [hR]; simp only [List.append_assoc]⟩
    · obtain rfl : q = k := by omega
      exact ⟨[], by rw [List.append_nil]⟩
theorem lim_bd {x : Lim} (h : limB x = true ∨ limZ x = true) : (0 ≤ x.sg ∧ x.sg ≤ 40) ∧ (0 ≤ x.hb ∧ x.hb ≤ 100000) ∧ (0 ≤ x.sb ∧ x.sb ≤ 100000) ∧ (0 ≤ x.hn ∧ x.hn ≤ 255) ∧ (0 ≤ x.sn ∧ x.sn ≤ 255) ∧ (0 ≤ x.gr ∧ x.gr ≤ 1099511627776) ∧ (0 ≤ x.bu ∧ x.bu ≤ 1000) := by
  rcases h with h | h
  · unfold limB at h
    simp only [Bool.and_eq_true, inB_iff] at h
    omega
  · unfold limZ at h
    simp only [Bool.and_eq_true, beq_iff_eq] at h
    omega
theorem hd_bd {many : Int} {d : HD} (h : hdB many d = true) : (0 ≤ d.st ∧ d.st ≤ 2) ∧ (0 ≤ d.gn ∧ d.gn ≤ 65535) ∧ (limB d.x = true ∨ limZ d.x = true) := by
  unfold hdB houseB at h
  simp only [Bool.and_eq_true, inB_iff] at h
  obtain ⟨h1, h2, h⟩ := h
  refine ⟨h1, h2, ?_⟩
  split at h
  · simp only [Bool.and_eq_true] at h; exact .inr h.2
  · simp only [Bool.and_eq_true] at h; exact .inl h.2.2.1
theorem fld_bd {many : Int} {d : HD} (h : hdB many d = true) (q : Nat) (hq : q < 10) : 0 ≤ fldVal d q ∧ fldVal d q < 256 ^ (fldNb q).toNat := by
  obtain ⟨h1, h2, h3⟩ := hd_bd h
  have h4 := lim_bd h3
  have h5 := house_len h
  have hq' : q = 0 ∨ q = 1 ∨ q = 2 ∨ q = 3 ∨ q = 4 ∨ q = 5 ∨ q = 6 ∨ q = 7 ∨ q = 8 ∨ q = 9 := by omega
  rcases hq' with rfl | rfl | rfl | rfl | rfl | rfl | rfl | rfl | rfl | rfl
  · show 0 ≤ d.st ∧ d.st < 256; omega
  · show 0 ≤ d.gn ∧ d.gn < 65536; omega
  · show 0 ≤ d.x.sg ∧ d.x.sg < 256; omega
  · show 0 ≤ d.x.hb ∧ d.x.hb < 16777216; omega
  · show 0 ≤ d.x.sb ∧ d.x.sb < 16777216; omega
  · show 0 ≤ d.x.hn ∧ d.x.hn < 256; omega
  · show 0 ≤ d.x.sn ∧ d.x.sn < 256; omega
  · show 0 ≤ d.x.gr ∧ d.x.gr < 281474976710656; omega
  · show 0 ≤ d.x.bu ∧ d.x.bu < 65536; omega
  · show 0 ≤ (d.segs.length : Int) ∧ (d.segs.length : Int) < 256; omega
def fillD (d : HD) : Nat → HD
  | 0 => hd0
  | q + 1 => setF (fillD d q) q (fldVal d q)
theorem fillD_1 (d : HD) : fillD d 1 = ⟨d.st, 0, ⟨0, 0, 0, 0, 0, 0, 0⟩, []⟩ := rfl
theorem fillD_2 (d : HD) : fillD d 2 = ⟨d.st, d.gn, ⟨0, 0, 0, 0, 0, 0, 0⟩, []⟩ := by
  show setF (fillD d 1) 1 (fldVal d 1) = _
  rw [fillD_1]; rfl
theorem fillD_3 (d : HD) : fillD d 3 = ⟨d.st, d.gn, ⟨d.x.sg, 0, 0, 0, 0, 0, 0⟩, []⟩ := by
  show setF (fillD d 2) 2 (fldVal d 2) = _
  rw [fillD_2]; rfl
theorem fillD_4 (d : HD) : fillD d 4 = ⟨d.st, d.gn, ⟨d.x.sg, d.x.hb, 0, 0, 0, 0, 0⟩, []⟩ := by
  show setF (fillD d 3) 3 (fldVal d 3) = _
  rw [fillD_3]; rfl
theorem fillD_5 (d : HD) : fillD d 5 = ⟨d.st, d.gn, ⟨d.x.sg, d.x.hb, d.x.sb, 0, 0, 0, 0⟩, []⟩ := by
  show setF (fillD d 4) 4 (fldVal d 4) = _
  rw [fillD_4]; rfl
theorem fillD_6 (d : HD) : fillD d 6 = ⟨d.st, d.gn, ⟨d.x.sg, d.x.hb, d.x.sb, d.x.hn, 0, 0, 0⟩, []⟩ := by
  show setF (fillD d 5) 5 (fldVal d 5) = _
  rw [fillD_5]; rfl
theorem fillD_7 (d : HD) : fillD d 7 = ⟨d.st, d.gn, ⟨d.x.sg, d.x.hb, d.x.sb, d.x.hn, d.x.sn, 0, 0⟩, []⟩ := by
  show setF (fillD d 6) 6 (fldVal d 6) = _
  rw [fillD_6]; rfl
theorem fillD_8 (d : HD) : fillD d 8 = ⟨d.st, d.gn, ⟨d.x.sg, d.x.hb, d.x.sb, d.x.hn, d.x.sn, d.x.gr, 0⟩, []⟩ := by
  show setF (fillD d 7) 7 (fldVal d 7) = _
  rw [fillD_7]; rfl
theorem fillD_9 (d : HD) : fillD d 9 = ⟨d.st, d.gn, ⟨d.x.sg, d.x.hb, d.x.sb, d.x.hn, d.x.sn, d.x.gr, d.x.bu⟩, []⟩ := by
  show setF (fillD d 8) 8 (fldVal d 8) = _
  rw [fillD_8]; rfl
theorem fillD_10 (d : HD) : fillD d 10 = { st := d.st, gn := d.gn, x := ⟨d.x.sg, d.x.hb, d.x.sb, d.x.hn, d.x.sn, d.x.gr, d.x.bu⟩, segs := if 0 < (d.segs.length : Int) then List.replicate (min (d.segs.length : Int) 40).toNat 0 else [] } := by
  show setF (fillD d 9) 9 (fldVal d 9) = _
  rw [fillD_9]; rfl
theorem fillH_eq (s : List UInt8) (p : Int) (d : HD) (h : ∀ q, q < 10 → getv s (p + nbs q) (fldNb q) = fldVal d q) (hl : d.segs.length ≤ 40) : fillH s p 10 = { d with segs := List.replicate d.segs.length 0 } := by
  have e : ∀ q, q ≤ 10 → fillH s p q = fillD d q := by
    intro q
    induction q with
    | zero => intro _; rfl
    | succ q ih => intro hq; simp only [fillH, fillD]; rw [ih (by omega), h q (by omega)]
  rw [e 10 (Nat.le_refl _)]
  rw [fillD_10]
  have hm : (min (d.segs.length : Int) 40).toNat = d.segs.length := by omega
  rw [hm]
  by_cases h0 : 0 < (d.segs.length : Int)
  · rw [if_pos h0]
  · rw [if_neg h0, show d.segs.length = 0 by omega]; rfl
theorem house_back {many : Int} (hm : many ≤ 65536) {d : HD} (hd : hdB many d = true) (A B : List UInt8) (k : Nat) (hA : A.length = 10 + 101 * k) : pHouse (A ++ houseBytes d ++ B) k = d := by
  have hp : houseAt k = A.length := by unfold houseAt; omega
  have hl := house_len hd
  have hv : ∀ q, q < 10 → getv (A ++ houseBytes d ++ B) (houseAt k + nbs q) (fldNb q) = fldVal d q := by
    intro q hq
    obtain ⟨R, hR⟩ := fld_split d q 10 hq
    have hb := fld_bd hd q hq
    have hn := fldNb_bd q
    have e : A ++ houseBytes d ++ B = (A ++ fldBytes d q) ++ putB (fldVal d q) (fldNb q) ++ (R ++ segBytes d.segs 40 ++ B) := by
      unfold houseBytes; rw [hR]; simp only [List.append_assoc]
    rw [e]
    exact getv_put _ _ _ _ (by omega) hb.1 hb.2 _ (by rw [List.length_append, hp, ← fldBytes_len d q]; omega)
  have hf := fillH_eq _ _ d hv hl
  unfold pHouse
  rw [hf]
  simp only [List.length_replicate]
  have hs : segsOf (A ++ houseBytes d ++ B) (houseAt k + 21) d.segs.length = d.segs := by
    apply List.ext_getElem
    · simp [segsOf]
    · intro i h1 h2
      simp only [segsOf, List.getElem_map, List.getElem_range]
      obtain ⟨R, hR⟩ := seg_split d.segs i 40 (by omega)
      have e : A ++ houseBytes d ++ B = (A ++ fldBytes d 10 ++ segBytes d.segs i) ++ putB (segAt d.segs i) 2 ++ (R ++ B) := by
        unfold houseBytes; rw [hR]; simp only [List.append_assoc]
      have hb := house_seg hd i h2
      have hsa : segAt d.segs i = d.segs[i] := by unfold segAt; rw [if_pos h2]; simp only [nthI, List.getD_eq_getElem?_getD, List.getElem?_eq_getElem h2, Option.getD_some]
      have hsn : segAt d.segs i = nthI d.segs i := by unfold segAt; rw [if_pos h2]
      rw [e, getv_put _ _ _ _ (by omega) (by rw [hsn]; exact hb.1) (by rw [hsn]; show _ < (65536 : Int); omega) _ (by
        have := fldBytes_len d 10
        rw [nbs_10] at this
        rw [List.length_append, List.length_append, segBytes_len]; omega), hsa]
  rw [hs]
theorem flat_split (L : List HD) (k : Nat) (d : HD) (h : L[k]? = some d) (num : Int) : ∃ R, tabFront num L = tabFront num (L.take k) ++ houseBytes d ++ R := by
  obtain ⟨hk, rfl⟩ := List.getElem?_eq_some_iff.1 h
  refine ⟨(L.drop (k + 1)).flatMap houseBytes, ?_⟩
  unfold tabFront
  have e : L = L.take k ++ (L[k] :: L.drop (k + 1)) := by rw [← List.drop_eq_getElem_cons hk, List.take_append_drop]
  conv => lhs; rw [e]
  rw [List.flatMap_append, List.flatMap_cons]
  simp only [List.append_assoc]
theorem num_back (num : Int) (L : List HD) (B : List UInt8) (hn : inB num 0 1099511627776 = true) : getv (tabFront num L ++ B) 4 6 = num := by
  have h := inB_iff.1 hn
  have e : tabFront num L ++ B = [66, 71, 84, 66] ++ putB num 6 ++ (L.flatMap houseBytes ++ B) := by unfold tabFront tabHead; simp only [List.append_assoc]
  rw [e]
  exact getv_put _ _ _ _ (by decide) h.1 (by show num < 281474976710656; omega) _ rfl
theorem tab_back (num : Int) (L : List HD) (B : List UInt8) (ht : tableB 65536 L = true) : pTab (tabFront num L ++ B) = L := by
  have h16 := table_len ht
  apply List.ext_getElem?
  intro j
  unfold pTab
  rw [List.getElem?_map]
  rcases Nat.lt_or_ge j 16 with h | h
  · rw [List.getElem?_range h, Option.map_some]
    have hj := List.getElem?_eq_getElem (l := L) (i := j) (by omega)
    obtain ⟨R, hR⟩ := flat_split L j _ hj num
    rw [hj, hR, List.append_assoc, house_back (Int.le_refl _) (table_house ht _ (List.mem_of_getElem? hj)) _ _ j (by rw [tabFront_len, List.length_take]; omega)]
  · rw [List.getElem?_eq_none (by rw [List.length_range]; exact h), List.getElem?_eq_none (by omega)]; rfl
/-- What is put is got. -/
theorem table_back {num : Int} {L : List HD} {t : List UInt8} (h : tablePut num L = some t) : tableGet t = some (num, L) := by
  have h' := h
  unfold tablePut at h
  split at h
  · rename_i hh
    injection h with h
    have e : t = tabFront num L ++ (List.replicate 418 0 ++ putB (crcOf (tabBytes num L)) 4) := by rw [← h]; unfold tabBytes; rw [List.append_assoc]
    have h1 : getv t 4 6 = num := by rw [e]; exact num_back num L _ hh.1
    have h2 : pTab t = L := by rw [e]; exact tab_back num L _ hh.2
    unfold tableGet
    rw [h1, h2, if_pos h']
  · cases h
theorem tablePut_len {num : Int} {L : List HD} {t : List UInt8} (h : tablePut num L = some t) : t.length = 2048 := by
  unfold tablePut at h
  split at h
  · rename_i hh
    injection h with h
    rw [← h, List.length_append, putB_length]
    unfold tabBytes
    rw [List.length_append, tabFront_len, table_len hh.2, List.length_replicate]
    rfl
  · cases h
end Go.Proofs.Ytjoplgdcpihmaaa
