/- Plain facts of the tables' laws: one house, houses by numbers, a turned bit. -/
import Derived.Test.YtjoplgdcpihmaaaTabN
import Derived.Test.YtjoplgdcpihmaaaHeadL
import Derived.Test.YtjoplgdcpihmaaaFlip
namespace Go.Proofs.Ytjoplgdcpihmaaa
open Go.RowKit
theorem flat_zeros (n : Nat) : flat (List.replicate n hd0) = [] := by
  induction n with
  | zero => rfl
  | succ n ih => rw [List.replicate_succ]; exact ih
/-- One house among such as are none. -/
theorem one_ok {many : Int} (h0 : hdB many hd0 = true) {d : HD} (hd : hdB many d = true) (k : Nat) : tableB many ((List.replicate 16 hd0).set k d) = true := by
  refine tableB_yes ⟨by simp, fun e he => ?_, fun i hi s hs hf => ?_⟩
  · rcases List.mem_or_eq_of_mem_set he with he | rfl
    · obtain ⟨-, rfl⟩ := List.mem_replicate.1 he; exact h0
    · exact hd
  · rw [List.getElem?_set] at hs
    by_cases hik : k = i
    · subst hik
      rw [List.take_set_of_le (Nat.le_refl _), List.take_replicate, flat_zeros] at hf
      cases hf
    · rw [if_neg hik, List.getElem?_replicate] at hs
      split at hs
      · cases hs
      · cases hs
/-! ### bounds by a number -/
def limOf (v : Int) : Lim :=
  ⟨8 + placeOf v 1048576 % 4, 6 + placeOf v 1048576 / 4 % 40, (6 + placeOf v 1048576 / 4 % 40) - placeOf v 1048576 / 768000 % 3, 4 + placeOf v 1048576 / 160 % 20, 1 + placeOf v 1048576 / 3 % (4 + placeOf v 1048576 / 160 % 20), placeOf v 1048576 / 3200 % 8, placeOf v 1048576 / 25600 % 30⟩
theorem limOf_ok (v : Int) : limB (limOf v) = true := by
  have hk := placeOf_bd v 1048576 (by decide)
  unfold limOf
  generalize placeOf v 1048576 = k at *
  have h1 : 0 ≤ k / 3 % (4 + k / 160 % 20) := Int.emod_nonneg _ (by omega)
  have h2 : k / 3 % (4 + k / 160 % 20) < 4 + k / 160 % 20 := Int.emod_lt_of_pos _ (by omega)
  unfold limB
  simp only [Bool.and_eq_true, inB_iff]
  omega
theorem limOf_sg (v : Int) : 8 ≤ (limOf v).sg ∧ (limOf v).sg ≤ 11 := by
  have hk := placeOf_bd v 1048576 (by decide)
  unfold limOf
  simp only
  omega
/-! ### houses by numbers -/
def mkSegs (nx st : Int) (n : Nat) : List Int := (List.range n).map fun (j : Nat) => nx + ((j : Int) + 1) * st
theorem mkSegs_len (nx st : Int) (n : Nat) : (mkSegs nx st n).length = n := by simp [mkSegs]
theorem mkSegs_succ (nx st : Int) (n : Nat) : mkSegs nx st (n + 1) = mkSegs nx st n ++ [nx + ((n : Int) + 1) * st] := by
  unfold mkSegs; rw [List.range_succ, List.map_append]; rfl
theorem mkSegs_nth (nx st : Int) (n j : Nat) (h : j < n) : nthI (mkSegs nx st n) j = nx + ((j : Int) + 1) * st := by
  unfold nthI mkSegs
  rw [List.getD_eq_getElem?_getD, List.getElem?_map, List.getElem?_range h]; rfl
def mkV (x : Int) : Int := placeOf x 1048576
def mkStep (x : Int) : Int := 1 + mkV x / 7 % 3
def mkH (nx x : Int) : HD :=
  if mkV x % 3 = 0 then ⟨0, mkV x % 65536, ⟨0, 0, 0, 0, 0, 0, 0⟩, []⟩
  else ⟨1 + mkV x % 2, 1 + mkV x % 65535, limOf x, mkSegs nx (mkStep x) (limOf x).sg.toNat⟩
def mkNx (nx x : Int) : Int := if mkV x % 3 = 0 then nx else nx + (limOf x).sg * mkStep x
def nxAt (l : List Int) : Nat → Int
  | 0 => 0
  | i + 1 => mkNx (nxAt l i) (nthI l i)
theorem mkStep_bd (x : Int) : 1 ≤ mkStep x ∧ mkStep x ≤ 3 := by unfold mkStep; omega
theorem mkNx_bd (nx x : Int) : nx ≤ mkNx nx x ∧ mkNx nx x ≤ nx + 33 := by
  have h1 := mkStep_bd x
  have h2 := limOf_sg x
  unfold mkNx
  split
  · omega
  · have h3 : 0 ≤ (limOf x).sg * mkStep x := Int.mul_nonneg (by omega) (by omega)
    have h4 : (limOf x).sg * mkStep x ≤ 11 * 3 := Int.mul_le_mul h2.2 h1.2 (by omega) (by omega)
    omega
theorem nxAt_bd (l : List Int) (k : Nat) : 0 ≤ nxAt l k ∧ nxAt l k ≤ 33 * k := by
  induction k with
  | zero => simp [nxAt]
  | succ k ih => have := mkNx_bd (nxAt l k) (nthI l k); simp only [nxAt]; omega
theorem nxAt_mono (l : List Int) {i j : Nat} (h : i ≤ j) : nxAt l i ≤ nxAt l j := by
  induction j with
  | zero => obtain rfl : i = 0 := by omega
            exact Int.le_refl _
  | succ j ih =>
    rcases Nat.lt_or_ge i (j + 1) with h2 | h2
    · have := ih (by omega); have := mkNx_bd (nxAt l j) (nthI l j); simp only [nxAt]; omega
    · obtain rfl : i = j + 1 := by omega
      exact Int.le_refl _
theorem mkSegs_mem {nx st : Int} {n : Nat} {s : Int} (hst : 1 ≤ st) (h : s ∈ mkSegs nx st n) : nx < s ∧ s ≤ nx + n * st := by
  unfold mkSegs at h
  obtain ⟨j, hj, rfl⟩ := List.mem_map.1 h
  have hj := List.mem_range.1 hj
  have h1 : 0 < ((j : Int) + 1) * st := Int.mul_pos (by omega) (by omega)
  have h2 : ((j : Int) + 1) * st ≤ n * st := Int.mul_le_mul_of_nonneg_right (by omega) (by omega)
  omega
theorem mkH_segs {nx x s : Int} (h : s ∈ (mkH nx x).segs) : nx < s ∧ s ≤ mkNx nx x := by
  unfold mkH at h
  unfold mkNx
  by_cases h3 : mkV x % 3 = 0
  · rw [if_pos h3] at h; cases h
  · rw [if_neg h3] at h ⊢
    have := mkSegs_mem (mkStep_bd x).1 h
    have h2 := limOf_sg x
    rwa [show (((limOf x).sg.toNat : Nat) : Int) = (limOf x).sg by omega] at this
theorem mkH_ok {many nx x : Int} (h0 : 0 ≤ nx) (hm : mkNx nx x < many) : hdB many (mkH nx x) = true := by
  have hv := placeOf_bd x 1048576 (by decide)
  have h1 := mkStep_bd x
  have h2 := limOf_sg x
  have hn : mkNx nx x = if mkV x % 3 = 0 then nx else nx + (limOf x).sg * mkStep x := rfl
  unfold mkH hdB
  unfold mkV at *
  by_cases h3 : placeOf x 1048576 % 3 = 0
  · rw [if_pos h3]
    unfold houseB
    simp only [Bool.and_eq_true, inB_iff]
    refine ⟨by decide, by omega, rfl⟩
  · rw [if_neg h3] at hn ⊢
    unfold houseB
    simp only [Bool.and_eq_true, inB_iff]
    refine ⟨by omega, by omega, ?_⟩
    rw [if_neg (by omega)]
    simp only [Bool.and_eq_true, decide_eq_true_eq, beq_iff_eq]
    refine ⟨risB_iff.2 fun j hj => ?_, by omega, limOf_ok x, by rw [mkSegs_len]; omega⟩
    rw [mkSegs_len] at hj
    unfold okAt
    rw [mkSegs_nth _ _ _ _ hj]
    have h4 : ((j : Int) + 1) * mkStep x ≤ (limOf x).sg * mkStep x := Int.mul_le_mul_of_nonneg_right (by omega) (by omega)
    have h5 : 0 < ((j : Int) + 1) * mkStep x := Int.mul_pos (by omega) (by omega)
    refine ⟨?_, by omega⟩
    unfold lastOf
    split
    · omega
    · rename_i hj0
      rw [mkSegs_nth _ _ _ _ (by omega)]
      have e : (((j - 1 : Nat) : Int) + 1) * mkStep x + mkStep x = ((j : Int) + 1) * mkStep x := by
        rw [show (((j - 1 : Nat) : Int) + 1) = (j : Int) by omega, Int.add_mul, Int.one_mul]
      omega
/-- The first k of sixteen houses are made by the numbers of l. -/
def madeK (l : List Int) (k : Nat) : List HD := (List.range 16).map fun j => if j < k ∧ j < l.length then mkH (nxAt l j) (nthI l j) else hd0
theorem madeK_len (l : List Int) (k : Nat) : (madeK l k).length = 16 := by simp [madeK]
theorem madeK_at (l : List Int) (k j : Nat) (h : j < 16) : (madeK l k)[j]? = some (if j < k ∧ j < l.length then mkH (nxAt l j) (nthI l j) else hd0) := by
  unfold madeK
  rw [List.getElem?_map, List.getElem?_range h]; rfl
theorem madeK_segs (l : List Int) (k j : Nat) (s : Int) (h : s ∈ ((madeK l k)[j]?.map (·.segs)).getD []) : nxAt l j < s ∧ s ≤ nxAt l (j + 1) := by
  rcases Nat.lt_or_ge j 16 with h1 | h1
  · rw [madeK_at l k j h1] at h
    split at h
    · exact mkH_segs h
    · cases h
  · rw [List.getElem?_eq_none (by rw [madeK_len]; exact h1)] at h; cases h
theorem flat_mem {L : List HD} {s : Int} (h : s ∈ flat L) : ∃ j, j < L.length ∧ s ∈ (L[j]?.map (·.segs)).getD [] := by
  unfold flat at h
  obtain ⟨d, hd, hs⟩ := List.mem_flatMap.1 h
  obtain ⟨j, hj, rfl⟩ := List.getElem_of_mem hd
  exact ⟨j, hj, by rw [List.getElem?_eq_getElem hj]; exact hs⟩
theorem madeK_ok (l : List Int) (k : Nat) : tableB 65536 (madeK l k) = true := by
  refine tableB_yes ⟨madeK_len l k, fun d hd => ?_, fun i hi s hs hf => ?_⟩
  · unfold madeK at hd
    obtain ⟨j, hj, rfl⟩ := List.mem_map.1 hd
    have hj := List.mem_range.1 hj
    split
    · have h1 := nxAt_bd l j
      have h2 := nxAt_bd l (j + 1)
      exact mkH_ok h1.1 (by show nxAt l (j + 1) < 65536; omega)
    · decide
  · have h1 := madeK_segs l k i s hs
    obtain ⟨j, hj, h2⟩ := flat_mem hf
    rw [List.length_take] at hj
    rw [List.getElem?_take, if_pos (by omega)] at h2
    have h3 := madeK_segs l k j s h2
    have h4 := nxAt_mono l (show j + 1 ≤ i by omega)
    omega
theorem madeK_zero (l : List Int) : madeK l 0 = List.replicate 16 hd0 := by
  apply List.ext_getElem?
  intro j
  rcases Nat.lt_or_ge j 16 with h | h
  · rw [madeK_at l 0 j h, if_neg (by omega), List.getElem?_replicate, if_pos h]
  · rw [List.getElem?_eq_none (by rw [madeK_len]; exact h), List.getElem?_eq_none (by simpa using h)]
theorem madeK_succ (l : List Int) (k : Nat) (hk : k < 16) (hl : k < l.length) : madeK l (k + 1) = (madeK l k).set k (mkH (nxAt l k) (nthI l k)) := by
  apply List.ext_getElem?
  intro j
  rw [List.getElem?_set, madeK_len]
  rcases Nat.lt_or_ge j 16 with h | h
  · by_cases e : k = j
    · subst e
      rw [if_pos rfl, if_pos h, madeK_at l _ _ h, if_pos ⟨by omega, hl⟩]
    · rw [if_neg e, madeK_at l _ _ h, madeK_at l _ _ h]
      by_cases h3 : j < k ∧ j < l.length
      · rw [if_pos h3, if_pos ⟨by omega, h3.2⟩]
      · rw [if_neg h3, if_neg (by omega)]
  · rw [if_neg (by omega), List.getElem?_eq_none (by rw [madeK_len]; exact h), List.getElem?_eq_none (by rw [madeK_len]; exact h)]
/-! ### a turned bit -/
theorem vU_lt (x : BitVec 32) : vU x < 256 ^ 4 := by have := vU_bd x; show vU x < 4294967296; omega
theorem putB_inj {u v : Int} (hu : 0 ≤ u ∧ u < 256 ^ 4) (hv : 0 ≤ v ∧ v < 256 ^ 4) (h : putB u 4 = putB v 4) : u = v := by
  have e := congrArg leN h
  unfold putB at e
  rw [leN_leB, leN_leB] at e
  have h1 : ((min 4 7 : Int)).toNat = 4 := rfl
  rw [h1, Int.emod_eq_of_lt hu.1 hu.2, Int.emod_eq_of_lt hv.1 hv.2] at e
  exact e
theorem tablePut_parts {num : Int} {L : List HD} {t : List UInt8} (h : tablePut num L = some t) : t.length = 2048 ∧ t.drop 2044 = putB (crcOf (t.take 2044)) 4 := by
  have hl := tablePut_len h
  refine ⟨hl, ?_⟩
  unfold tablePut at h
  split at h
  · rename_i hh
    injection h with h
    have hF : (tabBytes num L).length = 2044 := by
      unfold tabBytes
      rw [List.length_append, tabFront_len, table_len hh.2, List.length_replicate]
    rw [← h, List.take_left' hF, List.drop_left' hF]
  · cases h
theorem tableGet_parts {t : List UInt8} {r : Int × List HD} (h : tableGet t = some r) : t.length = 2048 ∧ t.drop 2044 = putB (crcOf (t.take 2044)) 4 := by
  unfold tableGet at h
  split at h
  · rename_i hh; exact tablePut_parts hh
  · cases h
theorem crcOf_bd (l : List UInt8) : 0 ≤ crcOf l ∧ crcOf l < 256 ^ 4 := ⟨(vU_bd _).1, vU_lt _⟩
theorem get_flip {num : Int} {L : List HD} {t : List UInt8} (h : tablePut num L = some t) (q : Nat) (hq : q < 2048) (c : UInt8) (hc : c ≠ nth t q) : tableGet (t.set q c) = none := by
  cases hg : tableGet (t.set q c) with
  | none => rfl
  | some r =>
    exfalso
    obtain ⟨h1, h2⟩ := tablePut_parts h
    obtain ⟨-, h4⟩ := tableGet_parts hg
    rcases Nat.lt_or_ge q 2044 with hlt | hge
    · rw [List.drop_set_of_lt hlt, h2, List.take_set] at h4
      have e := putB_inj (crcOf_bd _) (crcOf_bd _) h4
      have hl : (t.take 2044).length = 2044 := by rw [List.length_take]; omega
      exact crcOf_set (l := t.take 2044) (k := q) (c := c) (by omega) (by rw [nth_take _ _ _ hlt]; exact hc) e.symm
    · rw [List.take_set_of_le hge, ← h2] at h4
      have e : nth (t.set q c) q = nth t q := by
        have e1 := nth_drop (t.set q c) 2044 (q - 2044)
        have e2 := nth_drop t 2044 (q - 2044)
        rw [h4] at e1
        rw [show 2044 + (q - 2044) = q by omega] at e1 e2
        rw [← e1, e2]
      rw [nth_set _ _ _ _ (by omega), if_pos rfl] at e
      exact hc e
theorem get_more {num : Int} {L : List HD} {t : List UInt8} (h : tablePut num L = some t) : tableGet (t ++ [0]) = none := by
  cases hg : tableGet (t ++ [0]) with
  | none => rfl
  | some r =>
    exfalso
    have h1 := (tableGet_parts hg).1
    rw [List.length_append, tablePut_len h] at h1
    simp at h1
/-! ### the houses that are -/
def whoK (L : List HD) (k : Nat) : List Int := ((List.range k).filter fun j => decide (0 < ((L[j]?.map (·.st)).getD 0))).map fun (j : Nat) => (j : Int)
theorem whoK_zero (L : List HD) : whoK L 0 = [] := rfl
theorem whoK_yes (L : List HD) (k : Nat) (d : HD) (hd : L[k]? = some d) (h : 0 < d.st) : whoK L (k + 1) = whoK L k ++ [(k : Int)] := by
  unfold whoK
  rw [List.range_succ, List.filter_append, List.map_append]
  simp [hd, h]
theorem whoK_no (L : List HD) (k : Nat) (d : HD) (hd : L[k]? = some d) (h : ¬ 0 < d.st) : whoK L (k + 1) = whoK L k := by
  unfold whoK
  rw [List.range_succ, List.filter_append, List.map_append]
  simp [hd, h]
theorem whoK_len (L : List HD) (k : Nat) : (whoK L k).length ≤ k := by
  unfold whoK
  rw [List.length_map]
  exact Nat.le_trans (List.length_filter_le _ _) (by simp)
theorem whoK_at (L : List HD) (k w : Nat) (h : w + 1 < (whoK L k).length) : ∃ a b : Nat, ∃ da db : HD, nthI (whoK L k) w = a ∧ nthI (whoK L k) (w + 1) = b ∧ a < b ∧ b < k ∧ L[a]? = some da ∧ L[b]? = some db ∧ 0 < da.st ∧ 0 < db.st := by
  unfold whoK at h ⊢
  rw [List.length_map] at h
  have hp : List.Pairwise (· < ·) ((List.range k).filter fun j => decide (0 < ((L[j]?.map (·.st)).getD 0))) := List.Pairwise.filter _ List.pairwise_lt_range
  have hm : ∀ x ∈ ((List.range k).filter fun j => decide (0 < ((L[j]?.map (·.st)).getD 0))), x < k ∧ ∃ d, L[x]? = some d ∧ 0 < d.st := by
    intro x hx
    obtain ⟨h1, h2⟩ := List.mem_filter.1 hx
    refine ⟨List.mem_range.1 h1, ?_⟩
    have h2 := of_decide_eq_true h2
    cases hd : L[x]? with
    | none => rw [hd] at h2; simp at h2
    | some d => rw [hd] at h2; exact ⟨d, rfl, h2⟩
  generalize ((List.range k).filter fun j => decide (0 < ((L[j]?.map (·.st)).getD 0))) = F at *
  have h1 := List.pairwise_iff_getElem.1 hp w (w + 1) (by omega) h (by omega)
  obtain ⟨-, da, hda, pa⟩ := hm F[w] (List.getElem_mem _)
  obtain ⟨hb, db, hdb, pb⟩ := hm F[w + 1] (List.getElem_mem _)
  refine ⟨F[w], F[w + 1], da, db, ?_, ?_, h1, hb, hda, hdb, pa, pb⟩
  · simp only [nthI, List.getD_eq_getElem?_getD, List.getElem?_map, List.getElem?_eq_getElem (show w < F.length by omega), Option.map_some, Option.getD_some]
  · simp only [nthI, List.getD_eq_getElem?_getD, List.getElem?_map, List.getElem?_eq_getElem h, Option.map_some, Option.getD_some]
theorem made_state (l : List Int) (k j : Nat) (d : HD) (h : (madeK l k)[j]? = some d) (hs : 0 < d.st) : 8 ≤ d.segs.length ∧ d.segs.length ≤ 11 := by
  have hj : j < 16 := by
    have := (List.getElem?_eq_some_iff.1 h).1
    rwa [madeK_len] at this
  rw [madeK_at l k j hj] at h
  injection h with h
  have h2 := limOf_sg (nthI l j)
  split at h
  · subst h
    unfold mkH at hs ⊢
    split
    · rename_i h3; rw [if_pos h3] at hs; simp at hs
    · simp only [mkSegs_len]; omega
  · subst h; simp [hd0] at hs
/-- A segment that two houses have. -/
theorem twice_bad {L : List HD} {many : Int} {a b : Nat} {da db : HD} (hab : a < b) (ha : L[a]? = some da) (hb : L[b]? = some db) (s : Int) (hs : s ∈ da.segs) (h0 : 0 < db.segs.length) : tableB many (L.set b ⟨db.st, db.gn, db.x, db.segs.set 0 s⟩) = false := by
  have hbl := (List.getElem?_eq_some_iff.1 hb).1
  refine bad_twice (k := b) (d := ⟨db.st, db.gn, db.x, db.segs.set 0 s⟩) (by rw [List.getElem?_set_self hbl]) s ?_ ?_
  · show s ∈ db.segs.set 0 s
    exact List.mem_set h0 s
  · rw [List.take_set_of_le (Nat.le_refl _)]
    unfold flat
    refine List.mem_flatMap.2 ⟨da, ?_, hs⟩
    exact List.mem_of_getElem? (i := a) (by rw [List.getElem?_take, if_pos hab]; exact ha)
theorem put_bad {num : Int} {L : List HD} (h : tableB 65536 L = false) : tablePut num L = none := by
  unfold tablePut
  rw [if_neg]
  rw [h]; simp
theorem put_num {num : Int} {L : List HD} (h : inB num 0 1099511627776 = false) : tablePut num L = none := by
  unfold tablePut
  rw [if_neg]
  rw [h]; simp
theorem put_yes {num : Int} {L : List HD} (h : inB num 0 1099511627776 = true) (h2 : tableB 65536 L = true) : ∃ t, tablePut num L = some t := ⟨_, if_pos ⟨h, h2⟩⟩
/-! ### one house by two numbers -/
def lim5 : Lim := ⟨9, 7, 7, 4, 2, 0, 0⟩
def segs9 (k : Nat) : List Int := (List.range k).map fun (j : Nat) => 2 * (j : Int)
def apD (j n : Int) : HD :=
  if j = 0 then ⟨1, 1 + n, lim5, segs9 9⟩
  else if j = 1 then ⟨1, 1, ⟨9, 7, 7, 4, 2, n, 0⟩, segs9 9⟩
  else if j = 2 then ⟨1, 1, ⟨9, 7, 7, 4, 2, 0, n⟩, segs9 9⟩
  else if j = 3 then ⟨1, 1, ⟨9, 1000 + n, 7, 4, 2, 0, 0⟩, segs9 9⟩
  else if j = 4 then ⟨1, 1, lim5, (segs9 9).set 8 (500 + n)⟩
  else ⟨1 + n % 2, 1, lim5, segs9 9⟩
theorem apD_ok {j n : Int} (hj : 0 ≤ j ∧ j < 6) (hn : 0 ≤ n ∧ n < 16) : hdB 65536 (apD j n) = true := by
  have h : ∀ a, a < 6 → ∀ b, b < 16 → hdB 65536 (apD ((a : Nat) : Int) ((b : Nat) : Int)) = true := by decide +kernel
  have := h j.toNat (by omega) n.toNat (by omega)
  rwa [show ((j.toNat : Nat) : Int) = j by omega, show ((n.toNat : Nat) : Int) = n by omega] at this
theorem apD_inj {j n m : Int} (hj : 0 ≤ j ∧ j < 6) (h : apD j n = apD j m) : (j ≠ 5 → n = m) ∧ (j = 5 → n % 2 = m % 2) := by
  have hj' : j = 0 ∨ j = 1 ∨ j = 2 ∨ j = 3 ∨ j = 4 ∨ j = 5 := by omega
  rcases hj' with rfl | rfl | rfl | rfl | rfl | rfl
  · have e := congrArg HD.gn h
    simp only [apD, ↓reduceIte] at e
    exact ⟨fun _ => by omega, fun e => by omega⟩
  · have e := congrArg (fun d : HD => d.x.gr) h
    simp [apD] at e
    exact ⟨fun _ => by omega, fun e => by omega⟩
  · have e := congrArg (fun d : HD => d.x.bu) h
    simp [apD] at e
    exact ⟨fun _ => by omega, fun e => by omega⟩
  · have e := congrArg (fun d : HD => d.x.hb) h
    simp [apD] at e
    exact ⟨fun _ => by omega, fun e => by omega⟩
  · have e := congrArg (fun d : HD => nthI d.segs 8) h
    simp [apD, nthI, segs9] at e
    exact ⟨fun _ => by omega, fun e => by omega⟩
  · have e := congrArg HD.st h
    simp [apD] at e
    exact ⟨fun e => by omega, fun _ => by omega⟩
/-- The bytes are the same just where the numbers are. -/
theorem apart_eq {j n m : Int} {k : Nat} (hk : k < 16) (hj : 0 ≤ j ∧ j < 6) {s t : List UInt8} (hs : tablePut 7 ((List.replicate 16 hd0).set k (apD j n)) = some s) (ht : tablePut 7 ((List.replicate 16 hd0).set k (apD j m)) = some t) :
    (j ≠ 5 → (s = t ↔ n = m)) ∧ (j = 5 → (s = t ↔ n % 2 = m % 2)) := by
  have h1 : s = t → apD j n = apD j m := by
    rintro rfl
    have e1 := table_back hs
    have e2 := table_back ht
    rw [e1] at e2
    injection e2 with e2
    injection e2 with _ e2
    have e3 := congrArg (fun L : List HD => L[k]?) e2
    simp only [List.getElem?_set_self (show k < (List.replicate 16 hd0).length by simpa using hk)] at e3
    injection e3
  refine ⟨fun h5 => ⟨fun e => (apD_inj hj (h1 e)).1 h5, ?_⟩, fun h5 => ⟨fun e => (apD_inj hj (h1 e)).2 h5, fun e => ?_⟩⟩
  · rintro rfl; rw [hs] at ht; injection ht
  · subst h5
    have : apD 5 n = apD 5 m := by simp [apD, e]
    rw [this, ht] at hs
    injection hs with hs
    exact hs.symm
end Go.Proofs.Ytjoplgdcpihmaaa
