/- The law HeadEdges: its walk. -/
import Derived.Test.YtjoplgdcpihmaaaFr
import Derived.Test.YtjoplgdcpihmaaaHeadL
import Derived.Deep.RegionLaw
namespace Go.Proofs.Ytjoplgdcpihmaaa
open Go.RowKit
attribute [local go_sem ↓] Go.wp_at_zero Go.wp_at_succ
/-- Entry number i of five in turn. -/
def eAt (i : Nat) : Ent := if i % 5 = 0 then ⟨1, 255, 587⟩ else if i % 5 = 1 then ⟨2, 1, 9⟩ else if i % 5 = 2 then ⟨3, 255, 0⟩ else if i % 5 = 3 then ⟨4, 1, 3⟩ else ⟨5, 2, 0⟩
def eList (n : Nat) : List Ent := (List.range n).map eAt
theorem eList_succ (n : Nat) : eList (n + 1) = eList n ++ [eAt n] := by simp [eList, List.range_succ]
theorem eList_length (n : Nat) : (eList n).length = n := by simp [eList]
theorem eList_get (n i : Nat) (h : i < n) : (eList n)[i]? = some (eAt i) := by simp [eList, h]
def hdE : Hd := ⟨16, 65535, 1048575, 1099511627776, 65535, 1099511627776, 1099511627777, 1099511627777⟩
theorem eAt_ok (i : Nat) : entB (eAt i) = true := by
  have h : i % 5 < 5 := Nat.mod_lt _ (by decide)
  have h5 : i % 5 = 0 ∨ i % 5 = 1 ∨ i % 5 = 2 ∨ i % 5 = 3 ∨ i % 5 = 4 := by omega
  unfold eAt
  rcases h5 with h | h | h | h | h <;> rw [h] <;> decide
theorem edges_ok : checkB hdE (eList 24) = true := by
  unfold checkB
  rw [eList_length]
  have : (eList 24).all entB = true := by
    rw [List.all_eq_true]; intro x hx
    simp only [eList, List.mem_map] at hx
    obtain ⟨i, -, rfl⟩ := hx
    exact eAt_ok i
  rw [this]; decide
theorem checkB_bad {h : Hd} {l : List Ent} (i : Nat) (x : Ent) (hi : l[i]? = some x) (hx : entB x = false) : checkB h l = false := by
  unfold checkB
  have : l.all entB = false := by
    rw [List.all_eq_false]
    exact ⟨x, List.mem_of_getElem? hi, by rw [hx]; decide⟩
  rw [this, Bool.and_false]
theorem nums_bad_seq {h : Hd} {l : List Ent} (hs : h.seq < 1) : checkB h l = false := by
  unfold checkB numsB
  rw [inB_false (a := h.seq) (.inl hs)]
  simp
theorem nums_bad_life {h : Hd} {l : List Ent} (hs : 1048575 < h.life) : checkB h l = false := by
  unfold checkB numsB
  rw [inB_false (a := h.life) (.inr hs)]
  simp
theorem ent_bad_k {k n p : Int} (h : k < 1 ∨ 5 < k) : entB ⟨k, n, p⟩ = false := by unfold entB; rw [inB_false h]; rfl
theorem ent_bad_n {k n p : Int} (h : n < 1 ∨ 255 < n) : entB ⟨k, n, p⟩ = false := by unfold entB; rw [inB_false (a := n) h, Bool.false_and, Bool.and_false]
theorem ent_bad_p {k n p : Int} (h : p < 0 ∨ mostOf k < p) : entB ⟨k, n, p⟩ = false := by unfold entB; rw [inB_false (a := p) h, Bool.false_and, Bool.and_false, Bool.and_false]
theorem ent_bad_4 {n p : Int} (h : n ≠ 1) : entB ⟨4, n, p⟩ = false := by
  unfold entB
  have h1 : ((4 : Int) != 4) = false := by decide
  have h2 : (n == 1) = false := by simpa using h
  simp only [h1, h2, Bool.false_or, Bool.and_false]
theorem edge_cells {W : World} {b : Nat} (h : ∀ j : Nat, W.cell? ⟨b, j, none⟩ = (#[.int .i64 1, .int .i64 255, .int .i64 587, .int .i64 2, .int .i64 1, .int .i64 9, .int .i64 3, .int .i64 255, .int .i64 0, .int .i64 4, .int .i64 1, .int .i64 3, .int .i64 5, .int .i64 2, .int .i64 0] : Array Value)[j]?) (k : Nat) :
    W.cell? ⟨b, k % 5 * 3, none⟩ = some (.int .i64 (eAt k).k) ∧ W.cell? ⟨b, k % 5 * 3 + 1, none⟩ = some (.int .i64 (eAt k).n) ∧ W.cell? ⟨b, k % 5 * 3 + 2, none⟩ = some (.int .i64 (eAt k).p) := by
  have h : k % 5 < 5 := Nat.mod_lt _ (by decide)
  have h5 : k % 5 = 0 ∨ k % 5 = 1 ∨ k % 5 = 2 ∨ k % 5 = 3 ∨ k % 5 = 4 := by omega
  unfold eAt
  rcases h5 with h5 | h5 | h5 | h5 | h5 <;> rw [h5] <;> simp [*]
set_option maxRecDepth 100000 in
set_option maxHeartbeats 4000000 in
theorem headEdges_walk (how v : Int) (w : World) (a0 : -9223372036854775808 ≤ how) (a1 : how ≤ 9223372036854775807) (b0 : -9223372036854775808 ≤ v) (b1 : v ≤ 9223372036854775807) :
    Calls Try.prog 5 #[.int .i64 how, .int .i64 v] w fun e w' => e = .returned (.bool true) ∧ Below w.heap.size w w' := by
  have hv := placeOf_bd v 1000 (by decide)
  have hj := placeOf_bd how 9 (by decide)
  generalize hp1 : placeOf v 1000 = vk at *
  generalize hp2 : placeOf how 9 = jk at *
  have HV := Lib.hid hp1
  have HJ := Lib.hid hp2
  clear hp1 hp2
  obtain ⟨vn, rfl⟩ := Int.eq_ofNat_of_zero_le hv.1
  go_enter Try.func5, Try.ntmps5
  go_wp2_with fail
  refine (place_any v 1000 _ b0 b1 (by decide) (by decide)).mono ?_
  rw [HV.out]
  rintro e w1 ⟨rfl, rfl⟩
  go_wp2_with fail
  go_loopw [8] (fun i wr => ∃ (k : Nat) (u : Value), k ≤ 24 ∧ i = .int .i64 k ∧ Fr w wr [(#[.int .i64 16, .int .i64 65535, .int .i64 1048575, .int .i64 1099511627776, .int .i64 65535, .int .i64 1099511627776, .int .i64 1099511627777, .int .i64 1099511627777, u], 24), (#[.int .i64 1, .int .i64 255, .int .i64 587, .int .i64 2, .int .i64 1, .int .i64 9, .int .i64 3, .int .i64 255, .int .i64 0, .int .i64 4, .int .i64 1, .int .i64 3, .int .i64 5, .int .i64 2, .int .i64 0], 43)] ∧ EE.Own wr (w.heap.size + 2) u (eList k)) (fun i _ => 24 - (intOf i).toNat)
  case atStart => exact ⟨0, .slice none 0 0, by omega, rfl, Fr.two _ _ _ _ _, El.Own.nil _ _⟩
  case round =>
    obtain ⟨k, u, hk, rfl, hfr, hown⟩ := hrel
    have HF := Lib.hid hfr
    have HO := Lib.hid hown
    clear hfr hown
    by_cases hlt : k < 24
    · have cx : ∀ j : Nat, wr.cell? ⟨w.heap.size, j, none⟩ = _ := HF.out.cells (i := 0) rfl rfl
      have fx : ∀ j : Nat, wr.frozen? ⟨w.heap.size, j, none⟩ = false := HF.out.frees (i := 0) rfl rfl
      obtain ⟨d0, d1, d2⟩ := edge_cells (HF.out.cells (i := 1) rfl rfl) k
      have hm5 : (k : Int) % 5 < 5 := by omega
      have hm0 : (0 : Int) ≤ (k : Int) % 5 := by omega
      have ht5 : (k : Int).tmod 5 = (k : Int) % 5 := Int.tmod_eq_emod_of_nonneg (by omega)
      have s0 : w.heap.size < wr.heap.size := HF.out.lt (i := 0) (by simp) rfl
      have hkn : ((k : Int) % 5).toNat = k % 5 := by omega
      go_upto_region 7 with fail
      have HFd := Lib.hid HF.out.drew
      have HOd := Lib.hid HO.out.drew
      go_region_law ((first | (refine El.fr_step EE HFd.out HOd.out rfl ?_ ?_ (eAt k) (by rfl) _ _ (by rfl) (by rfl) (by rfl) _ (by rfl) ?_; (rw [eList_length]; simp only [EE]; omega); (rw [eList_length]; omega); intro A2 n2 c2 w1 hfr ho hg; clear HFd HOd cx fx hg s0; have HFd := Lib.hid hfr; have HOd := Lib.hid ho; have cx : ∀ j : Nat, w1.cell? ⟨w.heap.size, j, none⟩ = _ := HFd.out.cells (i := 0) rfl rfl; have fx : ∀ j : Nat, w1.frozen? ⟨w.heap.size, j, none⟩ = false := HFd.out.frees (i := 0) rfl rfl; have s0 : w.heap.size < w1.heap.size := HFd.out.lt (i := 0) (by simp) rfl; clear hfr ho) | fail))
      all_goals
        go_wp2
        go_roundw
        case rel => exact ⟨k + 1, .slice A2 n2 c2, by omega, by go_num, (HFd.out.set (i := 0) rfl rfl 8 _).at' (by simp only [List.set_cons_zero, List.setIfInBounds_toArray, List.set_cons_succ]), by rw [eList_succ]; exact HOd.out.set (by simp) _⟩
        case measure => simp only [intOf]; omega
    · obtain rfl : k = 24 := by omega
      clear hlt hk
      obtain ⟨g, c, rfl, hg1, hg2⟩ : ∃ g c, u = .slice (some ⟨g, 0, none⟩) 24 c ∧ w.heap.size + 2 ≤ g ∧ g < wr.heap.size := by
        obtain ⟨g, c, h1, h2, h3⟩ := World.ownsRow.form HO.out (by rw [eList_length]; decide)
        rw [eList_length] at h1
        exact ⟨g, c, h1, h2, h3⟩
      have cx : ∀ j : Nat, wr.cell? ⟨w.heap.size, j, none⟩ = _ := HF.out.cells (i := 0) rfl rfl; have fx : ∀ j : Nat, wr.frozen? ⟨w.heap.size, j, none⟩ = false := HF.out.frees (i := 0) rfl rfl; have s0 : w.heap.size < wr.heap.size := HF.out.lt (i := 0) (by simp) rfl
      go_wp2_with fail
      refine (check_val hdE _ (eList 24) true _ HO.out.reads (by rw [eList_length]; decide) edges_ok).mono ?_
      rintro e w2 ⟨rfl, hb⟩
      have HF' := Lib.hid (HF.out.below hb)
      have HO' := Lib.hid (HO.out.below hb)
      have hg3 : g < w2.heap.size := Nat.lt_of_lt_of_le hg2 hb.size
      clear HF HO cx fx s0 hb hg2
      have HF := HF'
      have HO := HO'
      clear HF' HO'
      have cx : ∀ j : Nat, w2.cell? ⟨w.heap.size, j, none⟩ = _ := HF.out.cells (i := 0) rfl rfl; have fx : ∀ j : Nat, w2.frozen? ⟨w.heap.size, j, none⟩ = false := HF.out.frees (i := 0) rfl rfl; have s0 : w.heap.size < w2.heap.size := HF.out.lt (i := 0) (by simp) rfl
      have hgne : w.heap.size ≠ g := by omega
      have hgne' : g ≠ w.heap.size := by omega
      go_wp2_with fail
      refine (place_any how 9 _ a0 a1 (by decide) (by decide)).mono ?_
      rw [HJ.out]
      rintro e w3 ⟨rfl, rfl⟩
      have hv9 := hv.2
      have hj' : jk = 0 ∨ jk = 1 ∨ jk = 2 ∨ jk = 3 ∨ jk = 4 ∨ jk = 5 ∨ jk = 6 ∨ jk = 7 ∨ jk = 8 := by omega
      clear hj HJ
      rcases hj' with rfl | rfl | rfl | rfl | rfl | rfl | rfl | rfl | rfl
      · obtain ⟨d0, d1, d2⟩ := edge_cells (HF.out.cells (i := 1) rfl rfl) (1 + vn)
        have hm5 : (1 + (vn : Int)) % 5 < 5 := by omega
        have hm0 : (0 : Int) ≤ (1 + (vn : Int)) % 5 := by omega
        have ht5 : (1 + (vn : Int)).tmod 5 = (1 + (vn : Int)) % 5 := Int.tmod_eq_emod_of_nonneg (by omega)
        have hkn : ((1 + (vn : Int)) % 5).toNat = (1 + vn) % 5 := by omega
        go_upto_region 13 with fail
        have HFd := Lib.hid HF.out.drew
        have HOd := Lib.hid HO.out.drew
        go_region_law ((first | (refine El.fr_step EE HFd.out HOd.out rfl ?_ ?_ (eAt (1 + vn)) (by rfl) _ _ (by rfl) (by rfl) (by rfl) _ (by rfl) ?_; (rw [eList_length]; simp only [EE]; omega); (rw [eList_length]; omega); intro A2 n2 c2 w1 hfr ho hg; clear HFd HOd cx fx hg s0; have HFd := Lib.hid hfr; have HOd := Lib.hid ho; have cx : ∀ j : Nat, w1.cell? ⟨w.heap.size, j, none⟩ = _ := HFd.out.cells (i := 0) rfl rfl; have fx : ∀ j : Nat, w1.frozen? ⟨w.heap.size, j, none⟩ = false := HFd.out.frees (i := 0) rfl rfl; have s0 : w.heap.size < w1.heap.size := HFd.out.lt (i := 0) (by simp) rfl; clear hfr ho) | fail))
        all_goals
          clear ht5 hkn hm5 hm0 d0 d1 d2
          have HOW := Lib.hid (HOd.out.set (p := ⟨w.heap.size, 8, none⟩) (by simp) (.slice A2 n2 c2))
          have HFW := Lib.hid ((HFd.out.set (i := 0) rfl rfl 8 (.slice A2 n2 c2)).at' (bl' := [(#[.int .i64 16, .int .i64 65535, .int .i64 1048575, .int .i64 1099511627776, .int .i64 65535, .int .i64 1099511627776, .int .i64 1099511627777, .int .i64 1099511627777, .slice A2 n2 c2], 24), (#[.int .i64 1, .int .i64 255, .int .i64 587, .int .i64 2, .int .i64 1, .int .i64 9, .int .i64 3, .int .i64 255, .int .i64 0, .int .i64 4, .int .i64 1, .int .i64 3, .int .i64 5, .int .i64 2, .int .i64 0], 43)]) (by simp only [List.set_cons_zero, List.setIfInBounds_toArray, List.set_cons_succ]))
          go_upto_region 28 with fail
          have HR := Lib.hid (El.Own.reads HOW.out)
          have HBW := Lib.hid (Fr.bel HFW.out)
          have HL : Hid ((eList 24 ++ [eAt (1 + vn)]).length * 24 ≤ 140737488351232) := by unfold Hid; rw [List.length_append, eList_length, List.length_singleton]; decide
          have HC : Hid (checkB hdE (eList 24 ++ [eAt (1 + vn)]) = false) := by unfold Hid checkB; rw [List.length_append, eList_length]; simp
          go_wp2_with fail
          refine (check_val hdE _ (eList 24 ++ [eAt (1 + vn)]) false _ HR.out HL.out HC.out).mono ?_
          rintro e v1 ⟨rfl, hb⟩
          have HB1 := Lib.hid (HBW.out.trans (hb.mono HBW.out.size))
          clear hb
          go_wp2_with fail
          refine (awake8_any _).mono ?_
          rintro e v2 ⟨rfl, hb⟩
          have HB2 := Lib.hid (HB1.out.trans (hb.mono HB1.out.size))
          clear hb
          go_wp2
          go_ret
          exact ⟨rfl, HB2.out⟩
      · have hat := HO.out.atAddr (g := g) (c := c) (n := 24) (by rw [eList_length]) 0 (eAt 0) (eList_get 24 0 (by decide))
        have gx : w2.cell? ⟨g, 2, none⟩ = some (.int .i64 587) := (hat 2 _ rfl).1
        have gf : w2.frozen? ⟨g, 2, none⟩ = false := (hat 2 _ rfl).2
        clear hat
        have ho : EE.Own (w2.setCell ⟨g, 2, none⟩ (.int .i64 (587 + (1 + (vn : Int))))) (w.heap.size + 2) (.slice (some ⟨g, 0, none⟩) 24 c) ((eList 24).set 0 ⟨1, 255, 587 + (1 + (vn : Int))⟩) := by
          have h1 := El.Own.store (E := EE) (l := eList 24) (g := g) (c := c) (by rw [eList_length]; exact HO.out) 0 2 (eAt 0) ⟨1, 255, 587 + (1 + (vn : Int))⟩ (.int .i64 (587 + (1 + (vn : Int)))) (eList_get 24 0 (by decide)) (by decide) rfl
          rw [List.length_set, eList_length] at h1; exact h1
        have HOW := Lib.hid ho
        have HFW := Lib.hid (HF.out.far (p := ⟨g, 2, none⟩) (by simp; omega) (.int .i64 (587 + (1 + (vn : Int)))))
        clear ho
        go_upto_region 28 with fail
        have HR := Lib.hid (El.Own.reads HOW.out)
        have HBW := Lib.hid (Fr.bel HFW.out)
        have HL : Hid (((eList 24).set 0 ⟨1, 255, 587 + (1 + (vn : Int))⟩).length * 24 ≤ 140737488351232) := by unfold Hid; rw [List.length_set, eList_length]; decide
        have HC : Hid (checkB hdE ((eList 24).set 0 ⟨1, 255, 587 + (1 + (vn : Int))⟩) = false) := checkB_bad 0 ⟨1, 255, 587 + (1 + (vn : Int))⟩ (by rw [List.getElem?_set_self (by rw [eList_length]; decide)]) (ent_bad_p (.inr (by show (587 : Int) < _; omega)))
        go_wp2_with fail
        refine (check_val hdE _ ((eList 24).set 0 ⟨1, 255, 587 + (1 + (vn : Int))⟩) false _ HR.out HL.out HC.out).mono ?_
        rintro e v1 ⟨rfl, hb⟩
        have HB1 := Lib.hid (HBW.out.trans (hb.mono HBW.out.size))
        clear hb
        go_wp2_with fail
        refine (awake8_any _).mono ?_
        rintro e v2 ⟨rfl, hb⟩
        have HB2 := Lib.hid (HB1.out.trans (hb.mono HB1.out.size))
        clear hb
        go_wp2
        go_ret
        exact ⟨rfl, HB2.out⟩
      · have hat := HO.out.atAddr (g := g) (c := c) (n := 24) (by rw [eList_length]) 1 (eAt 1) (eList_get 24 1 (by decide))
        have gx : w2.cell? ⟨g, 5, none⟩ = some (.int .i64 9) := (hat 2 _ rfl).1
        have gf : w2.frozen? ⟨g, 5, none⟩ = false := (hat 2 _ rfl).2
        clear hat
        have ho : EE.Own (w2.setCell ⟨g, 5, none⟩ (.int .i64 (9 + (1 + (vn : Int))))) (w.heap.size + 2) (.slice (some ⟨g, 0, none⟩) 24 c) ((eList 24).set 1 ⟨2, 1, 9 + (1 + (vn : Int))⟩) := by
          have h1 := El.Own.store (E := EE) (l := eList 24) (g := g) (c := c) (by rw [eList_length]; exact HO.out) 1 2 (eAt 1) ⟨2, 1, 9 + (1 + (vn : Int))⟩ (.int .i64 (9 + (1 + (vn : Int)))) (eList_get 24 1 (by decide)) (by decide) rfl
          rw [List.length_set, eList_length] at h1; exact h1
        have HOW := Lib.hid ho
        have HFW := Lib.hid (HF.out.far (p := ⟨g, 5, none⟩) (by simp; omega) (.int .i64 (9 + (1 + (vn : Int)))))
        clear ho
        go_upto_region 28 with fail
        have HR := Lib.hid (El.Own.reads HOW.out)
        have HBW := Lib.hid (Fr.bel HFW.out)
        have HL : Hid (((eList 24).set 1 ⟨2, 1, 9 + (1 + (vn : Int))⟩).length * 24 ≤ 140737488351232) := by unfold Hid; rw [List.length_set, eList_length]; decide
        have HC : Hid (checkB hdE ((eList 24).set 1 ⟨2, 1, 9 + (1 + (vn : Int))⟩) = false) := checkB_bad 1 ⟨2, 1, 9 + (1 + (vn : Int))⟩ (by rw [List.getElem?_set_self (by rw [eList_length]; decide)]) (ent_bad_p (.inr (by show (9 : Int) < _; omega)))
        go_wp2_with fail
        refine (check_val hdE _ ((eList 24).set 1 ⟨2, 1, 9 + (1 + (vn : Int))⟩) false _ HR.out HL.out HC.out).mono ?_
        rintro e v1 ⟨rfl, hb⟩
        have HB1 := Lib.hid (HBW.out.trans (hb.mono HBW.out.size))
        clear hb
        go_wp2_with fail
        refine (awake8_any _).mono ?_
        rintro e v2 ⟨rfl, hb⟩
        have HB2 := Lib.hid (HB1.out.trans (hb.mono HB1.out.size))
        clear hb
        go_wp2
        go_ret
        exact ⟨rfl, HB2.out⟩
      · have hat := HO.out.atAddr (g := g) (c := c) (n := 24) (by rw [eList_length]) 2 (eAt 2) (eList_get 24 2 (by decide))
        have gx : w2.cell? ⟨g, 8, none⟩ = some (.int .i64 0) := (hat 2 _ rfl).1
        have gf : w2.frozen? ⟨g, 8, none⟩ = false := (hat 2 _ rfl).2
        clear hat
        have ho : EE.Own (w2.setCell ⟨g, 8, none⟩ (.int .i64 (1 + (vn : Int)))) (w.heap.size + 2) (.slice (some ⟨g, 0, none⟩) 24 c) ((eList 24).set 2 ⟨3, 255, 1 + (vn : Int)⟩) := by
          have h1 := El.Own.store (E := EE) (l := eList 24) (g := g) (c := c) (by rw [eList_length]; exact HO.out) 2 2 (eAt 2) ⟨3, 255, 1 + (vn : Int)⟩ (.int .i64 (1 + (vn : Int))) (eList_get 24 2 (by decide)) (by decide) rfl
          rw [List.length_set, eList_length] at h1; exact h1
        have HOW := Lib.hid ho
        have HFW := Lib.hid (HF.out.far (p := ⟨g, 8, none⟩) (by simp; omega) (.int .i64 (1 + (vn : Int))))
        clear ho
        go_upto_region 28 with fail
        have HR := Lib.hid (El.Own.reads HOW.out)
        have HBW := Lib.hid (Fr.bel HFW.out)
        have HL : Hid (((eList 24).set 2 ⟨3, 255, 1 + (vn : Int)⟩).length * 24 ≤ 140737488351232) := by unfold Hid; rw [List.length_set, eList_length]; decide
        have HC : Hid (checkB hdE ((eList 24).set 2 ⟨3, 255, 1 + (vn : Int)⟩) = false) := checkB_bad 2 ⟨3, 255, 1 + (vn : Int)⟩ (by rw [List.getElem?_set_self (by rw [eList_length]; decide)]) (ent_bad_p (.inr (by show (0 : Int) < _; omega)))
        go_wp2_with fail
        refine (check_val hdE _ ((eList 24).set 2 ⟨3, 255, 1 + (vn : Int)⟩) false _ HR.out HL.out HC.out).mono ?_
        rintro e v1 ⟨rfl, hb⟩
        have HB1 := Lib.hid (HBW.out.trans (hb.mono HBW.out.size))
        clear hb
        go_wp2_with fail
        refine (awake8_any _).mono ?_
        rintro e v2 ⟨rfl, hb⟩
        have HB2 := Lib.hid (HB1.out.trans (hb.mono HB1.out.size))
        clear hb
        go_wp2
        go_ret
        exact ⟨rfl, HB2.out⟩
      · have hat := HO.out.atAddr (g := g) (c := c) (n := 24) (by rw [eList_length]) 3 (eAt 3) (eList_get 24 3 (by decide))
        have gx : w2.cell? ⟨g, 10, none⟩ = some (.int .i64 1) := (hat 1 _ rfl).1
        have gf : w2.frozen? ⟨g, 10, none⟩ = false := (hat 1 _ rfl).2
        clear hat
        have ho : EE.Own (w2.setCell ⟨g, 10, none⟩ (.int .i64 (1 + (1 + (vn : Int))))) (w.heap.size + 2) (.slice (some ⟨g, 0, none⟩) 24 c) ((eList 24).set 3 ⟨4, 1 + (1 + (vn : Int)), 3⟩) := by
          have h1 := El.Own.store (E := EE) (l := eList 24) (g := g) (c := c) (by rw [eList_length]; exact HO.out) 3 1 (eAt 3) ⟨4, 1 + (1 + (vn : Int)), 3⟩ (.int .i64 (1 + (1 + (vn : Int)))) (eList_get 24 3 (by decide)) (by decide) rfl
          rw [List.length_set, eList_length] at h1; exact h1
        have HOW := Lib.hid ho
        have HFW := Lib.hid (HF.out.far (p := ⟨g, 10, none⟩) (by simp; omega) (.int .i64 (1 + (1 + (vn : Int)))))
        clear ho
        go_upto_region 28 with fail
        have HR := Lib.hid (El.Own.reads HOW.out)
        have HBW := Lib.hid (Fr.bel HFW.out)
        have HL : Hid (((eList 24).set 3 ⟨4, 1 + (1 + (vn : Int)), 3⟩).length * 24 ≤ 140737488351232) := by unfold Hid; rw [List.length_set, eList_length]; decide
        have HC : Hid (checkB hdE ((eList 24).set 3 ⟨4, 1 + (1 + (vn : Int)), 3⟩) = false) := checkB_bad 3 ⟨4, 1 + (1 + (vn : Int)), 3⟩ (by rw [List.getElem?_set_self (by rw [eList_length]; decide)]) (ent_bad_4 (by show (1 + (1 + (vn : Int))) ≠ 1; omega))
        go_wp2_with fail
        refine (check_val hdE _ ((eList 24).set 3 ⟨4, 1 + (1 + (vn : Int)), 3⟩) false _ HR.out HL.out HC.out).mono ?_
        rintro e v1 ⟨rfl, hb⟩
        have HB1 := Lib.hid (HBW.out.trans (hb.mono HBW.out.size))
        clear hb
        go_wp2_with fail
        refine (awake8_any _).mono ?_
        rintro e v2 ⟨rfl, hb⟩
        have HB2 := Lib.hid (HB1.out.trans (hb.mono HB1.out.size))
        clear hb
        go_wp2
        go_ret
        exact ⟨rfl, HB2.out⟩
      · have hat := HO.out.atAddr (g := g) (c := c) (n := 24) (by rw [eList_length]) 4 (eAt 4) (eList_get 24 4 (by decide))
        have gx : w2.cell? ⟨g, 12, none⟩ = some (.int .i64 5) := (hat 0 _ rfl).1
        have gf : w2.frozen? ⟨g, 12, none⟩ = false := (hat 0 _ rfl).2
        clear hat
        have ho : EE.Own (w2.setCell ⟨g, 12, none⟩ (.int .i64 (5 + (1 + (vn : Int))))) (w.heap.size + 2) (.slice (some ⟨g, 0, none⟩) 24 c) ((eList 24).set 4 ⟨5 + (1 + (vn : Int)), 2, 0⟩) := by
          have h1 := El.Own.store (E := EE) (l := eList 24) (g := g) (c := c) (by rw [eList_length]; exact HO.out) 4 0 (eAt 4) ⟨5 + (1 + (vn : Int)), 2, 0⟩ (.int .i64 (5 + (1 + (vn : Int)))) (eList_get 24 4 (by decide)) (by decide) rfl
          rw [List.length_set, eList_length] at h1; exact h1
        have HOW := Lib.hid ho
        have HFW := Lib.hid (HF.out.far (p := ⟨g, 12, none⟩) (by simp; omega) (.int .i64 (5 + (1 + (vn : Int)))))
        clear ho
        go_upto_region 28 with fail
        have HR := Lib.hid (El.Own.reads HOW.out)
        have HBW := Lib.hid (Fr.bel HFW.out)
        have HL : Hid (((eList 24).set 4 ⟨5 + (1 + (vn : Int)), 2, 0⟩).length * 24 ≤ 140737488351232) := by unfold Hid; rw [List.length_set, eList_length]; decide
        have HC : Hid (checkB hdE ((eList 24).set 4 ⟨5 + (1 + (vn : Int)), 2, 0⟩) = false) := checkB_bad 4 ⟨5 + (1 + (vn : Int)), 2, 0⟩ (by rw [List.getElem?_set_self (by rw [eList_length]; decide)]) (ent_bad_k (.inr (by show (5 : Int) < _; omega)))
        go_wp2_with fail
        refine (check_val hdE _ ((eList 24).set 4 ⟨5 + (1 + (vn : Int)), 2, 0⟩) false _ HR.out HL.out HC.out).mono ?_
        rintro e v1 ⟨rfl, hb⟩
        have HB1 := Lib.hid (HBW.out.trans (hb.mono HBW.out.size))
        clear hb
        go_wp2_with fail
        refine (awake8_any _).mono ?_
        rintro e v2 ⟨rfl, hb⟩
        have HB2 := Lib.hid (HB1.out.trans (hb.mono HB1.out.size))
        clear hb
        go_wp2
        go_ret
        exact ⟨rfl, HB2.out⟩
      · have hmm : (1 + vn) % 24 < 24 := Nat.mod_lt _ (by decide)
        have hm0 : (0 : Int) ≤ (1 + (vn : Int)) % 24 := by omega
        have hm1 : (1 + (vn : Int)) % 24 < 24 := by omega
        have hkn : ((1 + (vn : Int)) % 24).toNat = (1 + vn) % 24 := by omega
        generalize hi : (1 + vn) % 24 = i at *
        have HI := Lib.hid hi
        clear hi
        have hat := HO.out.atAddr (g := g) (c := c) (n := 24) (by rw [eList_length]) i (eAt i) (eList_get 24 i hmm)
        have gx : w2.cell? ⟨g, i * 3 + 1, none⟩ = some (.int .i64 (eAt i).n) := (hat 1 _ rfl).1
        have gf : w2.frozen? ⟨g, i * 3 + 1, none⟩ = false := (hat 1 _ rfl).2
        clear hat
        have ho : EE.Own (w2.setCell ⟨g, i * 3 + 1, none⟩ (.int .i64 0)) (w.heap.size + 2) (.slice (some ⟨g, 0, none⟩) 24 c) ((eList 24).set i ⟨(eAt i).k, 0, (eAt i).p⟩) := by
          have h1 := El.Own.store (E := EE) (l := eList 24) (g := g) (c := c) (by rw [eList_length]; exact HO.out) i 1 (eAt i) ⟨(eAt i).k, 0, (eAt i).p⟩ (.int .i64 0) (eList_get 24 i hmm) (by decide) rfl
          rw [List.length_set, eList_length] at h1; exact h1
        have HOW := Lib.hid ho
        have HFW := Lib.hid (HF.out.far (p := ⟨g, i * 3 + 1, none⟩) (by simp; omega) (.int .i64 0))
        have HMM := Lib.hid hmm
        clear ho
        go_upto_region 28 with fail
        have HR := Lib.hid (El.Own.reads HOW.out)
        have HBW := Lib.hid (Fr.bel HFW.out)
        have HL : Hid (((eList 24).set i ⟨(eAt i).k, 0, (eAt i).p⟩).length * 24 ≤ 140737488351232) := by unfold Hid; rw [List.length_set, eList_length]; decide
        have HC : Hid (checkB hdE ((eList 24).set i ⟨(eAt i).k, 0, (eAt i).p⟩) = false) := checkB_bad i ⟨(eAt i).k, 0, (eAt i).p⟩ (by rw [List.getElem?_set_self (by rw [eList_length]; exact HMM.out)]) (ent_bad_n (.inl (by decide)))
        go_wp2_with fail
        refine (check_val hdE _ ((eList 24).set i ⟨(eAt i).k, 0, (eAt i).p⟩) false _ HR.out HL.out HC.out).mono ?_
        rintro e v1 ⟨rfl, hb⟩
        have HB1 := Lib.hid (HBW.out.trans (hb.mono HBW.out.size))
        clear hb
        go_wp2_with fail
        refine (awake8_any _).mono ?_
        rintro e v2 ⟨rfl, hb⟩
        have HB2 := Lib.hid (HB1.out.trans (hb.mono HB1.out.size))
        clear hb
        go_wp2
        go_ret
        exact ⟨rfl, HB2.out⟩
      · have HOW := Lib.hid (HO.out.set (p := ⟨w.heap.size, 3, none⟩) (by simp) (.int .i64 (1 - (1 + (vn : Int)))))
        have HFW : Hid (Fr w (w2.setCell ⟨w.heap.size, 3, none⟩ (.int .i64 (1 - (1 + (vn : Int))))) [(#[.int .i64 (16), .int .i64 (65535), .int .i64 (1048575), .int .i64 (1 - (1 + (vn : Int))), .int .i64 (65535), .int .i64 (1099511627776), .int .i64 (1099511627777), .int .i64 (1099511627777), .slice (some ⟨g, 0, none⟩) 24 c], 24), (#[.int .i64 1, .int .i64 255, .int .i64 587, .int .i64 2, .int .i64 1, .int .i64 9, .int .i64 3, .int .i64 255, .int .i64 0, .int .i64 4, .int .i64 1, .int .i64 3, .int .i64 5, .int .i64 2, .int .i64 0], 43)]) := (HF.out.set (i := 0) rfl rfl 3 (.int .i64 (1 - (1 + (vn : Int))))).at' (by simp only [List.set_cons_zero, List.setIfInBounds_toArray, List.set_cons_succ])
        go_upto_region 28 with fail
        have HR := Lib.hid (El.Own.reads HOW.out)
        have HBW := Lib.hid (Fr.bel HFW.out)
        have HL : Hid ((eList 24).length * 24 ≤ 140737488351232) := by unfold Hid; rw [eList_length]; decide
        have HC : Hid (checkB ⟨16, 65535, 1048575, 1 - (1 + (vn : Int)), 65535, 1099511627776, 1099511627777, 1099511627777⟩ (eList 24) = false) := nums_bad_seq (by show 1 - (1 + (vn : Int)) < 1; omega)
        go_wp2_with fail
        refine (check_val ⟨16, 65535, 1048575, 1 - (1 + (vn : Int)), 65535, 1099511627776, 1099511627777, 1099511627777⟩ _ (eList 24) false _ HR.out HL.out HC.out).mono ?_
        rintro e v1 ⟨rfl, hb⟩
        have HB1 := Lib.hid (HBW.out.trans (hb.mono HBW.out.size))
        clear hb
        go_wp2_with fail
        refine (awake8_any _).mono ?_
        rintro e v2 ⟨rfl, hb⟩
        have HB2 := Lib.hid (HB1.out.trans (hb.mono HB1.out.size))
        clear hb
        go_wp2
        go_ret
        exact ⟨rfl, HB2.out⟩
      · have HOW := Lib.hid (HO.out.set (p := ⟨w.heap.size, 2, none⟩) (by simp) (.int .i64 (1048575 + (1 + (vn : Int)))))
        have HFW : Hid (Fr w (w2.setCell ⟨w.heap.size, 2, none⟩ (.int .i64 (1048575 + (1 + (vn : Int))))) [(#[.int .i64 (16), .int .i64 (65535), .int .i64 (1048575 + (1 + (vn : Int))), .int .i64 (1099511627776), .int .i64 (65535), .int .i64 (1099511627776), .int .i64 (1099511627777), .int .i64 (1099511627777), .slice (some ⟨g, 0, none⟩) 24 c], 24), (#[.int .i64 1, .int .i64 255, .int .i64 587, .int .i64 2, .int .i64 1, .int .i64 9, .int .i64 3, .int .i64 255, .int .i64 0, .int .i64 4, .int .i64 1, .int .i64 3, .int .i64 5, .int .i64 2, .int .i64 0], 43)]) := (HF.out.set (i := 0) rfl rfl 2 (.int .i64 (1048575 + (1 + (vn : Int))))).at' (by simp only [List.set_cons_zero, List.setIfInBounds_toArray, List.set_cons_succ])
        go_upto_region 28 with fail
        have HR := Lib.hid (El.Own.reads HOW.out)
        have HBW := Lib.hid (Fr.bel HFW.out)
        have HL : Hid ((eList 24).length * 24 ≤ 140737488351232) := by unfold Hid; rw [eList_length]; decide
        have HC : Hid (checkB ⟨16, 65535, 1048575 + (1 + (vn : Int)), 1099511627776, 65535, 1099511627776, 1099511627777, 1099511627777⟩ (eList 24) = false) := nums_bad_life (by show (1048575 : Int) < 1048575 + (1 + (vn : Int)); omega)
        go_wp2_with fail
        refine (check_val ⟨16, 65535, 1048575 + (1 + (vn : Int)), 1099511627776, 65535, 1099511627776, 1099511627777, 1099511627777⟩ _ (eList 24) false _ HR.out HL.out HC.out).mono ?_
        rintro e v1 ⟨rfl, hb⟩
        have HB1 := Lib.hid (HBW.out.trans (hb.mono HBW.out.size))
        clear hb
        go_wp2_with fail
        refine (awake8_any _).mono ?_
        rintro e v2 ⟨rfl, hb⟩
        have HB2 := Lib.hid (HB1.out.trans (hb.mono HB1.out.size))
        clear hb
        go_wp2
        go_ret
        exact ⟨rfl, HB2.out⟩
end Go.Proofs.Ytjoplgdcpihmaaa
