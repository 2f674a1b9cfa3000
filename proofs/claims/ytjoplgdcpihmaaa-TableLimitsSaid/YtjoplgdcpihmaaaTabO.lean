/- The law TableLimits: its walk. -/
import Derived.Test.YtjoplgdcpihmaaaTabN
import Derived.Test.YtjoplgdcpihmaaaHeadL
namespace Go.Proofs.Ytjoplgdcpihmaaa
open Go.RowKit
theorem one_reads {W : World} {base : Nat} {v : Value} {x : Lim} (h : EH.Own W base v ((List.replicate 16 ⟨hd0, none, 0⟩).set 2 ⟨⟨1, 1, x, []⟩, none, 0⟩)) : HReads W v ((List.replicate 16 ⟨hd0, none, 0⟩).set 2 ⟨⟨1, 1, x, []⟩, none, 0⟩) := ⟨h.reads, fun y hy => by
  rcases List.mem_or_eq_of_mem_set hy with hm | rfl
  · obtain ⟨-, rfl⟩ := List.mem_replicate.1 hm
    exact El.Reads.nil _
  · exact El.Reads.nil _⟩
theorem one_short (x : Lim) : ∀ h ∈ (List.replicate 16 (⟨hd0, none, 0⟩ : HM)).set 2 ⟨⟨1, 1, x, []⟩, none, 0⟩, h.d.segs.length ≤ 140737488351232 := fun y hy => by
  rcases List.mem_or_eq_of_mem_set hy with hm | rfl
  · obtain ⟨-, rfl⟩ := List.mem_replicate.1 hm
    decide
  · exact Nat.zero_le _
theorem one_bad (many : Int) {x : Lim} (h : limB x = false) : tableB many (((List.replicate 16 (⟨hd0, none, 0⟩ : HM)).set 2 ⟨⟨1, 1, x, []⟩, none, 0⟩).map (·.d)) = false :=
  bad_house (k := 2) (d := ⟨1, 1, x, []⟩) rfl (by unfold hdB houseB; simp [h])
theorem one_none {x : Lim} (h : limB x = false) : tablePut 1 (((List.replicate 16 (⟨hd0, none, 0⟩ : HM)).set 2 ⟨⟨1, 1, x, []⟩, none, 0⟩).map (·.d)) = none := by
  unfold tablePut
  rw [if_neg]
  rw [one_bad _ h]
  simp
section
attribute [local go_sem ↓] Go.wp_at_zero Go.wp_at_succ
set_option maxRecDepth 100000 in
set_option maxHeartbeats 4000000 in
theorem tableLimits_walk (how v : Int) (w : World) (a0 : -9223372036854775808 ≤ how) (a1 : how ≤ 9223372036854775807) (b0 : -9223372036854775808 ≤ v) (b1 : v ≤ 9223372036854775807) :
    Calls Try.prog 9 #[.int .i64 how, .int .i64 v] w fun e w' => e = .returned (.bool true) ∧ Below w.heap.size w w' := by
  have hj := placeOf_bd how 10 (by decide)
  have hk := placeOf_bd v 1000 (by decide)
  have PJ := Lib.hid (place_any how 10)
  have PV := Lib.hid (place_any v 1000)
  generalize hJ : placeOf how 10 = j at *
  generalize hK : placeOf v 1000 = k0 at *
  have HF := Lib.hid (Fr.two w #[.int .i64 40, .int .i64 100000, .int .i64 100000, .int .i64 255, .int .i64 255, .int .i64 1099511627776, .int .i64 1000] #[.int .i64 8, .int .i64 0, .int .i64 0, .int .i64 1, .int .i64 1, .int .i64 0, .int .i64 0] 48 48)
  go_enter Try.func9, Try.ntmps9
  go_wp2_with fail
  refine (PV.out _ b0 b1 (by decide) (by decide)).mono ?_
  rintro e w1 ⟨rfl, rfl⟩
  go_wp2_with fail
  refine (climit_val ⟨40, 100000, 100000, 255, 255, 1099511627776, 1000⟩ true _ (by decide)).mono ?_
  rintro e w1 ⟨rfl, hb⟩
  have HF1 := Lib.hid (HF.out.below hb)
  have e7 : ∀ j : Nat, w1.cell? ⟨w.heap.size + 1, j, none⟩ = _ := HF1.out.cells (i := 1) rfl rfl
  clear hb HF
  go_wp2_with fail
  refine (climit_val ⟨8, 0, 0, 1, 1, 0, 0⟩ true _ (by decide)).mono ?_
  rintro e w2 ⟨rfl, hb⟩
  have HF2 := Lib.hid (HF1.out.below hb)
  have e6 : ∀ j : Nat, w2.cell? ⟨w.heap.size, j, none⟩ = _ := HF2.out.cells (i := 0) rfl rfl
  have f6 : ∀ j : Nat, w2.frozen? ⟨w.heap.size, j, none⟩ = false := HF2.out.frees (i := 0) rfl rfl
  clear hb HF1 e7
  go_wp2_with fail
  refine (PJ.out _ a0 a1 (by decide) (by decide)).mono ?_
  rintro e w3 ⟨rfl, rfl⟩
  have hj' : j = 0 ∨ j = 1 ∨ j = 2 ∨ j = 3 ∨ j = 4 ∨ j = 5 ∨ j = 6 ∨ j = 7 ∨ j = 8 ∨ j = 9 := by omega
  clear hj hJ hK a0 a1 b0 b1
  rcases hj' with rfl | rfl | rfl | rfl | rfl | rfl | rfl | rfl | rfl | rfl
  · have hsz : (w2.setCell ⟨w.heap.size, 0, none⟩ (.int .i64 (40 + (1 + k0)))).heap.size = w2.heap.size := by simp [World.setCell]
    have hw2 : w.heap.size + 2 ≤ w2.heap.size := HF2.out.2.1
    obtain ⟨C, hmk, hown⟩ := El.mk_row EH ⟨hd0, none, 0⟩ rfl 16 (by decide) (by decide) (w.heap.size + 2) (w2.setCell ⟨w.heap.size, 0, none⟩ (.int .i64 (40 + (1 + k0)))) (by rw [hsz]; exact hw2)
    rw [hsz] at hmk hown
    have hmk' : (Instr.makeSlice 46 (.int .i64 16) (.int .i64 16)).run Try.prog (w2.setCell ⟨w.heap.size, 0, none⟩ (.int .i64 (40 + (1 + k0)))) = .ok (.slice (some ⟨w2.heap.size, 0, none⟩) 16 16) ((w2.setCell ⟨w.heap.size, 0, none⟩ (.int .i64 (40 + (1 + k0)))).alloc (.cells C 61)) := hmk
    clear hmk
    go_upto_region 27 with fail
    clear hmk' e6 f6
    have HX := Lib.hid (((HF2.out.set (i := 0) (b := w.heap.size) rfl rfl 0 (.int .i64 (40 + (1 + k0))))).alloc (.cells C 61))
    have HO : Hid (EH.Own ((w2.setCell ⟨w.heap.size, 0, none⟩ (.int .i64 (40 + (1 + k0)))).alloc (.cells C 61)) (w.heap.size + 2) (.slice (some ⟨w2.heap.size, 0, none⟩) 16 16) (List.replicate 16 ⟨hd0, none, 0⟩)) := hown
    clear hown hsz
    generalize w2.heap.size = lb at *
    generalize (w2.setCell ⟨w.heap.size, 0, none⟩ (.int .i64 (40 + (1 + k0)))).alloc (.cells C 61) = W4 at *
    have e6 : ∀ j : Nat, W4.cell? ⟨w.heap.size, j, none⟩ = (#[.int .i64 (40 + (1 + k0)), .int .i64 (100000), .int .i64 (100000), .int .i64 (255), .int .i64 (255), .int .i64 (1099511627776), .int .i64 (1000)] : Array Value)[j]? := fun j => by
      have := HX.out.cells (i := 0) (b := w.heap.size) rfl rfl j
      simpa only [List.setIfInBounds_toArray, List.set_cons_zero, List.set_cons_succ] using this
    have eo : ∀ (i j : Nat) u, i < 16 → (EH.enc ⟨hd0, none, 0⟩)[j]? = some u → W4.cell? ⟨lb, i * 10 + j, none⟩ = some u ∧ W4.frozen? ⟨lb, i * 10 + j, none⟩ = false := fun i j u hi hu => HO.out.atAddr rfl i _ (by rw [List.getElem?_replicate, if_pos hi]) j u hu
    have c0 := eo 2 0 _ (by decide) rfl
    have c1 := eo 2 1 _ (by decide) rfl
    have c2 := eo 2 2 _ (by decide) rfl
    have c3 := eo 2 3 _ (by decide) rfl
    have c4 := eo 2 4 _ (by decide) rfl
    have c5 := eo 2 5 _ (by decide) rfl
    have c6 := eo 2 6 _ (by decide) rfl
    have c7 := eo 2 7 _ (by decide) rfl
    have c8 := eo 2 8 _ (by decide) rfl
    have c9 := eo 2 9 _ (by decide) rfl
    clear eo
    simp only [Nat.reduceMul, Nat.reduceAdd] at c0 c1 c2 c3 c4 c5 c6 c7 c8 c9
    go_upto_region 28 with fail
    have hy : Hid (limB ⟨(40 + (1 + k0)), (100000), (100000), (255), (255), (1099511627776), (1000)⟩ = false) := by
      unfold Hid
      rw [Bool.eq_false_iff]; intro h; unfold limB at h; simp only [Bool.and_eq_true, inB_iff] at h; omega
    have HO5 : Hid (EH.Own ((((((((((W4.setCell ⟨lb, 20, none⟩ (.int .i64 1)).setCell ⟨lb, 21, none⟩ (.int .i64 1)).setCell ⟨lb, 22, none⟩ (.int .i64 (40 + (1 + k0)))).setCell ⟨lb, 23, none⟩ (.int .i64 (100000))).setCell ⟨lb, 24, none⟩ (.int .i64 (100000))).setCell ⟨lb, 25, none⟩ (.int .i64 (255))).setCell ⟨lb, 26, none⟩ (.int .i64 (255))).setCell ⟨lb, 27, none⟩ (.int .i64 (1099511627776))).setCell ⟨lb, 28, none⟩ (.int .i64 (1000))).setCell ⟨lb, 29, none⟩ (.slice none 0 0)) (w.heap.size + 2) (.slice (some ⟨lb, 0, none⟩) 16 16) ((List.replicate 16 ⟨hd0, none, 0⟩).set 2 ⟨⟨1, 1, ⟨(40 + (1 + k0)), (100000), (100000), (255), (255), (1099511627776), (1000)⟩, []⟩, none, 0⟩)) := own_put HO.out 2 ⟨hd0, none, 0⟩ ⟨⟨1, 1, ⟨(40 + (1 + k0)), (100000), (100000), (255), (255), (1099511627776), (1000)⟩, []⟩, none, 0⟩ rfl
    have HX5 : Hid (Fr w ((((((((((W4.setCell ⟨lb, 20, none⟩ (.int .i64 1)).setCell ⟨lb, 21, none⟩ (.int .i64 1)).setCell ⟨lb, 22, none⟩ (.int .i64 (40 + (1 + k0)))).setCell ⟨lb, 23, none⟩ (.int .i64 (100000))).setCell ⟨lb, 24, none⟩ (.int .i64 (100000))).setCell ⟨lb, 25, none⟩ (.int .i64 (255))).setCell ⟨lb, 26, none⟩ (.int .i64 (255))).setCell ⟨lb, 27, none⟩ (.int .i64 (1099511627776))).setCell ⟨lb, 28, none⟩ (.int .i64 (1000))).setCell ⟨lb, 29, none⟩ (.slice none 0 0)) _) := ((((((((((HX.out.far (p := ⟨lb, 20, none⟩) hw2 (.int .i64 1)).far (p := ⟨lb, 21, none⟩) hw2 (.int .i64 1)).far (p := ⟨lb, 22, none⟩) hw2 (.int .i64 (40 + (1 + k0)))).far (p := ⟨lb, 23, none⟩) hw2 (.int .i64 (100000))).far (p := ⟨lb, 24, none⟩) hw2 (.int .i64 (100000))).far (p := ⟨lb, 25, none⟩) hw2 (.int .i64 (255))).far (p := ⟨lb, 26, none⟩) hw2 (.int .i64 (255))).far (p := ⟨lb, 27, none⟩) hw2 (.int .i64 (1099511627776))).far (p := ⟨lb, 28, none⟩) hw2 (.int .i64 (1000))).far (p := ⟨lb, 29, none⟩) hw2 (.slice none 0 0))
    clear HO HX c0 c1 c2 c3 c4 c5 c6 c7 c8 c9 e6 HF2
    generalize ((((((((((W4.setCell ⟨lb, 20, none⟩ (.int .i64 1)).setCell ⟨lb, 21, none⟩ (.int .i64 1)).setCell ⟨lb, 22, none⟩ (.int .i64 (40 + (1 + k0)))).setCell ⟨lb, 23, none⟩ (.int .i64 (100000))).setCell ⟨lb, 24, none⟩ (.int .i64 (100000))).setCell ⟨lb, 25, none⟩ (.int .i64 (255))).setCell ⟨lb, 26, none⟩ (.int .i64 (255))).setCell ⟨lb, 27, none⟩ (.int .i64 (1099511627776))).setCell ⟨lb, 28, none⟩ (.int .i64 (1000))).setCell ⟨lb, 29, none⟩ (.slice none 0 0)) = W5 at *
    have e6 : ∀ j : Nat, W5.cell? ⟨w.heap.size, j, none⟩ = (#[.int .i64 (40 + (1 + k0)), .int .i64 (100000), .int .i64 (100000), .int .i64 (255), .int .i64 (255), .int .i64 (1099511627776), .int .i64 (1000)] : Array Value)[j]? := fun j => by
      have := HX5.out.cells (i := 0) (b := w.heap.size) rfl rfl j
      simpa only [List.setIfInBounds_toArray, List.set_cons_zero, List.set_cons_succ] using this
    have HR := Lib.hid (one_reads HO5.out)
    generalize hLL : (⟨(40 + (1 + k0)), (100000), (100000), (255), (255), (1099511627776), (1000)⟩ : Lim) = LL at *
    go_wp2_with fail
    refine (tput_val 1 _ _ _ HR.out (by simp) (one_short _) none (one_none hy.out)).mono ?_
    rintro e w6 ⟨rfl, hb⟩
    have HX6 := Lib.hid (HX5.out.below hb)
    have HR6 := Lib.hid (HR.out.below hb)
    have e6' : ∀ j : Nat, w6.cell? ⟨w.heap.size, j, none⟩ = (#[.int .i64 (40 + (1 + k0)), .int .i64 (100000), .int .i64 (100000), .int .i64 (255), .int .i64 (255), .int .i64 (1099511627776), .int .i64 (1000)] : Array Value)[j]? := fun j => (hb.cell (p := ⟨w.heap.size, j, none⟩) (HX5.out.lt (i := 0) (b := w.heap.size) (by simp) rfl)).trans (e6 j)
    clear hb e6 HX5 HR
    unfold putAns
    go_wp2_with fail
    refine (climit_val ⟨(40 + (1 + k0)), (100000), (100000), (255), (255), (1099511627776), (1000)⟩ false _ (by rw [hLL]; exact hy.out)).mono ?_
    rintro e w7 ⟨rfl, hb⟩
    have HX7 := Lib.hid (HX6.out.below hb)
    have HR7 := Lib.hid (HR6.out.below hb)
    clear hb e6' HX6 HR6
    go_wp2_with fail
    refine (tcheck_any 1000 _ _ _ HR7.out (by decide) (by simp) (one_short _)).mono ?_
    rw [one_bad 1000 hy.out]
    rintro e w8 ⟨rfl, hb⟩
    have HX8 := Lib.hid (HX7.out.below hb)
    clear hb HX7 HR7
    go_wp2_with fail
    refine (awake6_any _).mono ?_
    rintro e w9 ⟨rfl, hb⟩
    have HX9 := Lib.hid (HX8.out.below hb)
    clear hb HX8
    go_wp2_with fail
    go_ret
    exact ⟨rfl, HX9.out.bel⟩
  · have hsz : (w2.setCell ⟨w.heap.size, 1, none⟩ (.int .i64 (100000 + (1 + k0)))).heap.size = w2.heap.size := by simp [World.setCell]
    have hw2 : w.heap.size + 2 ≤ w2.heap.size := HF2.out.2.1
    obtain ⟨C, hmk, hown⟩ := El.mk_row EH ⟨hd0, none, 0⟩ rfl 16 (by decide) (by decide) (w.heap.size + 2) (w2.setCell ⟨w.heap.size, 1, none⟩ (.int .i64 (100000 + (1 + k0)))) (by rw [hsz]; exact hw2)
    rw [hsz] at hmk hown
    have hmk' : (Instr.makeSlice 46 (.int .i64 16) (.int .i64 16)).run Try.prog (w2.setCell ⟨w.heap.size, 1, none⟩ (.int .i64 (100000 + (1 + k0)))) = .ok (.slice (some ⟨w2.heap.size, 0, none⟩) 16 16) ((w2.setCell ⟨w.heap.size, 1, none⟩ (.int .i64 (100000 + (1 + k0)))).alloc (.cells C 61)) := hmk
    clear hmk
    go_upto_region 27 with fail
    clear hmk' e6 f6
    have HX := Lib.hid (((HF2.out.set (i := 0) (b := w.heap.size) rfl rfl 1 (.int .i64 (100000 + (1 + k0))))).alloc (.cells C 61))
    have HO : Hid (EH.Own ((w2.setCell ⟨w.heap.size, 1, none⟩ (.int .i64 (100000 + (1 + k0)))).alloc (.cells C 61)) (w.heap.size + 2) (.slice (some ⟨w2.heap.size, 0, none⟩) 16 16) (List.replicate 16 ⟨hd0, none, 0⟩)) := hown
    clear hown hsz
    generalize w2.heap.size = lb at *
    generalize (w2.setCell ⟨w.heap.size, 1, none⟩ (.int .i64 (100000 + (1 + k0)))).alloc (.cells C 61) = W4 at *
    have e6 : ∀ j : Nat, W4.cell? ⟨w.heap.size, j, none⟩ = (#[.int .i64 (40), .int .i64 (100000 + (1 + k0)), .int .i64 (100000), .int .i64 (255), .int .i64 (255), .int .i64 (1099511627776), .int .i64 (1000)] : Array Value)[j]? := fun j => by
      have := HX.out.cells (i := 0) (b := w.heap.size) rfl rfl j
      simpa only [List.setIfInBounds_toArray, List.set_cons_zero, List.set_cons_succ] using this
    have eo : ∀ (i j : Nat) u, i < 16 → (EH.enc ⟨hd0, none, 0⟩)[j]? = some u → W4.cell? ⟨lb, i * 10 + j, none⟩ = some u ∧ W4.frozen? ⟨lb, i * 10 + j, none⟩ = false := fun i j u hi hu => HO.out.atAddr rfl i _ (by rw [List.getElem?_replicate, if_pos hi]) j u hu
    have c0 := eo 2 0 _ (by decide) rfl
    have c1 := eo 2 1 _ (by decide) rfl
    have c2 := eo 2 2 _ (by decide) rfl
    have c3 := eo 2 3 _ (by decide) rfl
    have c4 := eo 2 4 _ (by decide) rfl
    have c5 := eo 2 5 _ (by decide) rfl
    have c6 := eo 2 6 _ (by decide) rfl
    have c7 := eo 2 7 _ (by decide) rfl
    have c8 := eo 2 8 _ (by decide) rfl
    have c9 := eo 2 9 _ (by decide) rfl
    clear eo
    simp only [Nat.reduceMul, Nat.reduceAdd] at c0 c1 c2 c3 c4 c5 c6 c7 c8 c9
    go_upto_region 28 with fail
    have hy : Hid (limB ⟨(40), (100000 + (1 + k0)), (100000), (255), (255), (1099511627776), (1000)⟩ = false) := by
      unfold Hid
      rw [Bool.eq_false_iff]; intro h; unfold limB at h; simp only [Bool.and_eq_true, inB_iff] at h; omega
    have HO5 : Hid (EH.Own ((((((((((W4.setCell ⟨lb, 20, none⟩ (.int .i64 1)).setCell ⟨lb, 21, none⟩ (.int .i64 1)).setCell ⟨lb, 22, none⟩ (.int .i64 (40))).setCell ⟨lb, 23, none⟩ (.int .i64 (100000 + (1 + k0)))).setCell ⟨lb, 24, none⟩ (.int .i64 (100000))).setCell ⟨lb, 25, none⟩ (.int .i64 (255))).setCell ⟨lb, 26, none⟩ (.int .i64 (255))).setCell ⟨lb, 27, none⟩ (.int .i64 (1099511627776))).setCell ⟨lb, 28, none⟩ (.int .i64 (1000))).setCell ⟨lb, 29, none⟩ (.slice none 0 0)) (w.heap.size + 2) (.slice (some ⟨lb, 0, none⟩) 16 16) ((List.replicate 16 ⟨hd0, none, 0⟩).set 2 ⟨⟨1, 1, ⟨(40), (100000 + (1 + k0)), (100000), (255), (255), (1099511627776), (1000)⟩, []⟩, none, 0⟩)) := own_put HO.out 2 ⟨hd0, none, 0⟩ ⟨⟨1, 1, ⟨(40), (100000 + (1 + k0)), (100000), (255), (255), (1099511627776), (1000)⟩, []⟩, none, 0⟩ rfl
    have HX5 : Hid (Fr w ((((((((((W4.setCell ⟨lb, 20, none⟩ (.int .i64 1)).setCell ⟨lb, 21, none⟩ (.int .i64 1)).setCell ⟨lb, 22, none⟩ (.int .i64 (40))).setCell ⟨lb, 23, none⟩ (.int .i64 (100000 + (1 + k0)))).setCell ⟨lb, 24, none⟩ (.int .i64 (100000))).setCell ⟨lb, 25, none⟩ (.int .i64 (255))).setCell ⟨lb, 26, none⟩ (.int .i64 (255))).setCell ⟨lb, 27, none⟩ (.int .i64 (1099511627776))).setCell ⟨lb, 28, none⟩ (.int .i64 (1000))).setCell ⟨lb, 29, none⟩ (.slice none 0 0)) _) := ((((((((((HX.out.far (p := ⟨lb, 20, none⟩) hw2 (.int .i64 1)).far (p := ⟨lb, 21, none⟩) hw2 (.int .i64 1)).far (p := ⟨lb, 22, none⟩) hw2 (.int .i64 (40))).far (p := ⟨lb, 23, none⟩) hw2 (.int .i64 (100000 + (1 + k0)))).far (p := ⟨lb, 24, none⟩) hw2 (.int .i64 (100000))).far (p := ⟨lb, 25, none⟩) hw2 (.int .i64 (255))).far (p := ⟨lb, 26, none⟩) hw2 (.int .i64 (255))).far (p := ⟨lb, 27, none⟩) hw2 (.int .i64 (1099511627776))).far (p := ⟨lb, 28, none⟩) hw2 (.int .i64 (1000))).far (p := ⟨lb, 29, none⟩) hw2 (.slice none 0 0))
    clear HO HX c0 c1 c2 c3 c4 c5 c6 c7 c8 c9 e6 HF2
    generalize ((((((((((W4.setCell ⟨lb, 20, none⟩ (.int .i64 1)).setCell ⟨lb, 21, none⟩ (.int .i64 1)).setCell ⟨lb, 22, none⟩ (.int .i64 (40))).setCell ⟨lb, 23, none⟩ (.int .i64 (100000 + (1 + k0)))).setCell ⟨lb, 24, none⟩ (.int .i64 (100000))).setCell ⟨lb, 25, none⟩ (.int .i64 (255))).setCell ⟨lb, 26, none⟩ (.int .i64 (255))).setCell ⟨lb, 27, none⟩ (.int .i64 (1099511627776))).setCell ⟨lb, 28, none⟩ (.int .i64 (1000))).setCell ⟨lb, 29, none⟩ (.slice none 0 0)) = W5 at *
    have e6 : ∀ j : Nat, W5.cell? ⟨w.heap.size, j, none⟩ = (#[.int .i64 (40), .int .i64 (100000 + (1 + k0)), .int .i64 (100000), .int .i64 (255), .int .i64 (255), .int .i64 (1099511627776), .int .i64 (1000)] : Array Value)[j]? := fun j => by
      have := HX5.out.cells (i := 0) (b := w.heap.size) rfl rfl j
      simpa only [List.setIfInBounds_toArray, List.set_cons_zero, List.set_cons_succ] using this
    have HR := Lib.hid (one_reads HO5.out)
    generalize hLL : (⟨(40), (100000 + (1 + k0)), (100000), (255), (255), (1099511627776), (1000)⟩ : Lim) = LL at *
    go_wp2_with fail
    refine (tput_val 1 _ _ _ HR.out (by simp) (one_short _) none (one_none hy.out)).mono ?_
    rintro e w6 ⟨rfl, hb⟩
    have HX6 := Lib.hid (HX5.out.below hb)
    have HR6 := Lib.hid (HR.out.below hb)
    have e6' : ∀ j : Nat, w6.cell? ⟨w.heap.size, j, none⟩ = (#[.int .i64 (40), .int .i64 (100000 + (1 + k0)), .int .i64 (100000), .int .i64 (255), .int .i64 (255), .int .i64 (1099511627776), .int .i64 (1000)] : Array Value)[j]? := fun j => (hb.cell (p := ⟨w.heap.size, j, none⟩) (HX5.out.lt (i := 0) (b := w.heap.size) (by simp) rfl)).trans (e6 j)
    clear hb e6 HX5 HR
    unfold putAns
    go_wp2_with fail
    refine (climit_val ⟨(40), (100000 + (1 + k0)), (100000), (255), (255), (1099511627776), (1000)⟩ false _ (by rw [hLL]; exact hy.out)).mono ?_
    rintro e w7 ⟨rfl, hb⟩
    have HX7 := Lib.hid (HX6.out.below hb)
    have HR7 := Lib.hid (HR6.out.below hb)
    clear hb e6' HX6 HR6
    go_wp2_with fail
    refine (tcheck_any 1000 _ _ _ HR7.out (by decide) (by simp) (one_short _)).mono ?_
    rw [one_bad 1000 hy.out]
    rintro e w8 ⟨rfl, hb⟩
    have HX8 := Lib.hid (HX7.out.below hb)
    clear hb HX7 HR7
    go_wp2_with fail
    refine (awake6_any _).mono ?_
    rintro e w9 ⟨rfl, hb⟩
    have HX9 := Lib.hid (HX8.out.below hb)
    clear hb HX8
    go_wp2_with fail
    go_ret
    exact ⟨rfl, HX9.out.bel⟩
  · have hsz : (w2.setCell ⟨w.heap.size, 2, none⟩ (.int .i64 (100000 + (1 + k0)))).heap.size = w2.heap.size := by simp [World.setCell]
    have hw2 : w.heap.size + 2 ≤ w2.heap.size := HF2.out.2.1
    obtain ⟨C, hmk, hown⟩ := El.mk_row EH ⟨hd0, none, 0⟩ rfl 16 (by decide) (by decide) (w.heap.size + 2) (w2.setCell ⟨w.heap.size, 2, none⟩ (.int .i64 (100000 + (1 + k0)))) (by rw [hsz]; exact hw2)
    rw [hsz] at hmk hown
    have hmk' : (Instr.makeSlice 46 (.int .i64 16) (.int .i64 16)).run Try.prog (w2.setCell ⟨w.heap.size, 2, none⟩ (.int .i64 (100000 + (1 + k0)))) = .ok (.slice (some ⟨w2.heap.size, 0, none⟩) 16 16) ((w2.setCell ⟨w.heap.size, 2, none⟩ (.int .i64 (100000 + (1 + k0)))).alloc (.cells C 61)) := hmk
    clear hmk
    go_upto_region 27 with fail
    clear hmk' e6 f6
    have HX := Lib.hid (((HF2.out.set (i := 0) (b := w.heap.size) rfl rfl 2 (.int .i64 (100000 + (1 + k0))))).alloc (.cells C 61))
    have HO : Hid (EH.Own ((w2.setCell ⟨w.heap.size, 2, none⟩ (.int .i64 (100000 + (1 + k0)))).alloc (.cells C 61)) (w.heap.size + 2) (.slice (some ⟨w2.heap.size, 0, none⟩) 16 16) (List.replicate 16 ⟨hd0, none, 0⟩)) := hown
    clear hown hsz
    generalize w2.heap.size = lb at *
    generalize (w2.setCell ⟨w.heap.size, 2, none⟩ (.int .i64 (100000 + (1 + k0)))).alloc (.cells C 61) = W4 at *
    have e6 : ∀ j : Nat, W4.cell? ⟨w.heap.size, j, none⟩ = (#[.int .i64 (40), .int .i64 (100000), .int .i64 (100000 + (1 + k0)), .int .i64 (255), .int .i64 (255), .int .i64 (1099511627776), .int .i64 (1000)] : Array Value)[j]? := fun j => by
      have := HX.out.cells (i := 0) (b := w.heap.size) rfl rfl j
      simpa only [List.setIfInBounds_toArray, List.set_cons_zero, List.set_cons_succ] using this
    have eo : ∀ (i j : Nat) u, i < 16 → (EH.enc ⟨hd0, none, 0⟩)[j]? = some u → W4.cell? ⟨lb, i * 10 + j, none⟩ = some u ∧ W4.frozen? ⟨lb, i * 10 + j, none⟩ = false := fun i j u hi hu => HO.out.atAddr rfl i _ (by rw [List.getElem?_replicate, if_pos hi]) j u hu
    have c0 := eo 2 0 _ (by decide) rfl
    have c1 := eo 2 1 _ (by decide) rfl
    have c2 := eo 2 2 _ (by decide) rfl
    have c3 := eo 2 3 _ (by decide) rfl
    have c4 := eo 2 4 _ (by decide) rfl
    have c5 := eo 2 5 _ (by decide) rfl
    have c6 := eo 2 6 _ (by decide) rfl
    have c7 := eo 2 7 _ (by decide) rfl
    have c8 := eo 2 8 _ (by decide) rfl
    have c9 := eo 2 9 _ (by decide) rfl
    clear eo
    simp only [Nat.reduceMul, Nat.reduceAdd] at c0 c1 c2 c3 c4 c5 c6 c7 c8 c9
    go_upto_region 28 with fail
    have hy : Hid (limB ⟨(40), (100000), (100000 + (1 + k0)), (255), (255), (1099511627776), (1000)⟩ = false) := by
      unfold Hid
      rw [Bool.eq_false_iff]; intro h; unfold limB at h; simp only [Bool.and_eq_true, inB_iff] at h; omega
    have HO5 : Hid (EH.Own ((((((((((W4.setCell ⟨lb, 20, none⟩ (.int .i64 1)).setCell ⟨lb, 21, none⟩ (.int .i64 1)).setCell ⟨lb, 22, none⟩ (.int .i64 (40))).setCell ⟨lb, 23, none⟩ (.int .i64 (100000))).setCell ⟨lb, 24, none⟩ (.int .i64 (100000 + (1 + k0)))).setCell ⟨lb, 25, none⟩ (.int .i64 (255))).setCell ⟨lb, 26, none⟩ (.int .i64 (255))).setCell ⟨lb, 27, none⟩ (.int .i64 (1099511627776))).setCell ⟨lb, 28, none⟩ (.int .i64 (1000))).setCell ⟨lb, 29, none⟩ (.slice none 0 0)) (w.heap.size + 2) (.slice (some ⟨lb, 0, none⟩) 16 16) ((List.replicate 16 ⟨hd0, none, 0⟩).set 2 ⟨⟨1, 1, ⟨(40), (100000), (100000 + (1 + k0)), (255), (255), (1099511627776), (1000)⟩, []⟩, none, 0⟩)) := own_put HO.out 2 ⟨hd0, none, 0⟩ ⟨⟨1, 1, ⟨(40), (100000), (100000 + (1 + k0)), (255), (255), (1099511627776), (1000)⟩, []⟩, none, 0⟩ rfl
    have HX5 : Hid (Fr w ((((((((((W4.setCell ⟨lb, 20, none⟩ (.int .i64 1)).setCell ⟨lb, 21, none⟩ (.int .i64 1)).setCell ⟨lb, 22, none⟩ (.int .i64 (40))).setCell ⟨lb, 23, none⟩ (.int .i64 (100000))).setCell ⟨lb, 24, none⟩ (.int .i64 (100000 + (1 + k0)))).setCell ⟨lb, 25, none⟩ (.int .i64 (255))).setCell ⟨lb, 26, none⟩ (.int .i64 (255))).setCell ⟨lb, 27, none⟩ (.int .i64 (1099511627776))).setCell ⟨lb, 28, none⟩ (.int .i64 (1000))).setCell ⟨lb, 29, none⟩ (.slice none 0 0)) _) := ((((((((((HX.out.far (p := ⟨lb, 20, none⟩) hw2 (.int .i64 1)).far (p := ⟨lb, 21, none⟩) hw2 (.int .i64 1)).far (p := ⟨lb, 22, none⟩) hw2 (.int .i64 (40))).far (p := ⟨lb, 23, none⟩) hw2 (.int .i64 (100000))).far (p := ⟨lb, 24, none⟩) hw2 (.int .i64 (100000 + (1 + k0)))).far (p := ⟨lb, 25, none⟩) hw2 (.int .i64 (255))).far (p := ⟨lb, 26, none⟩) hw2 (.int .i64 (255))).far (p := ⟨lb, 27, none⟩) hw2 (.int .i64 (1099511627776))).far (p := ⟨lb, 28, none⟩) hw2 (.int .i64 (1000))).far (p := ⟨lb, 29, none⟩) hw2 (.slice none 0 0))
    clear HO HX c0 c1 c2 c3 c4 c5 c6 c7 c8 c9 e6 HF2
    generalize ((((((((((W4.setCell ⟨lb, 20, none⟩ (.int .i64 1)).setCell ⟨lb, 21, none⟩ (.int .i64 1)).setCell ⟨lb, 22, none⟩ (.int .i64 (40))).setCell ⟨lb, 23, none⟩ (.int .i64 (100000))).setCell ⟨lb, 24, none⟩ (.int .i64 (100000 + (1 + k0)))).setCell ⟨lb, 25, none⟩ (.int .i64 (255))).setCell ⟨lb, 26, none⟩ (.int .i64 (255))).setCell ⟨lb, 27, none⟩ (.int .i64 (1099511627776))).setCell ⟨lb, 28, none⟩ (.int .i64 (1000))).setCell ⟨lb, 29, none⟩ (.slice none 0 0)) = W5 at *
    have e6 : ∀ j : Nat, W5.cell? ⟨w.heap.size, j, none⟩ = (#[.int .i64 (40), .int .i64 (100000), .int .i64 (100000 + (1 + k0)), .int .i64 (255), .int .i64 (255), .int .i64 (1099511627776), .int .i64 (1000)] : Array Value)[j]? := fun j => by
      have := HX5.out.cells (i := 0) (b := w.heap.size) rfl rfl j
      simpa only [List.setIfInBounds_toArray, List.set_cons_zero, List.set_cons_succ] using this
    have HR := Lib.hid (one_reads HO5.out)
    generalize hLL : (⟨(40), (100000), (100000 + (1 + k0)), (255), (255), (1099511627776), (1000)⟩ : Lim) = LL at *
    go_wp2_with fail
    refine (tput_val 1 _ _ _ HR.out (by simp) (one_short _) none (one_none hy.out)).mono ?_
    rintro e w6 ⟨rfl, hb⟩
    have HX6 := Lib.hid (HX5.out.below hb)
    have HR6 := Lib.hid (HR.out.below hb)
    have e6' : ∀ j : Nat, w6.cell? ⟨w.heap.size, j, none⟩ = (#[.int .i64 (40), .int .i64 (100000), .int .i64 (100000 + (1 + k0)), .int .i64 (255), .int .i64 (255), .int .i64 (1099511627776), .int .i64 (1000)] : Array Value)[j]? := fun j => (hb.cell (p := ⟨w.heap.size, j, none⟩) (HX5.out.lt (i := 0) (b := w.heap.size) (by simp) rfl)).trans (e6 j)
    clear hb e6 HX5 HR
    unfold putAns
    go_wp2_with fail
    refine (climit_val ⟨(40), (100000), (100000 + (1 + k0)), (255), (255), (1099511627776), (1000)⟩ false _ (by rw [hLL]; exact hy.out)).mono ?_
    rintro e w7 ⟨rfl, hb⟩
    have HX7 := Lib.hid (HX6.out.below hb)
    have HR7 := Lib.hid (HR6.out.below hb)
    clear hb e6' HX6 HR6
    go_wp2_with fail
    refine (tcheck_any 1000 _ _ _ HR7.out (by decide) (by simp) (one_short _)).mono ?_
    rw [one_bad 1000 hy.out]
    rintro e w8 ⟨rfl, hb⟩
    have HX8 := Lib.hid (HX7.out.below hb)
    clear hb HX7 HR7
    go_wp2_with fail
    refine (awake6_any _).mono ?_
    rintro e w9 ⟨rfl, hb⟩
    have HX9 := Lib.hid (HX8.out.below hb)
    clear hb HX8
    go_wp2_with fail
    go_ret
    exact ⟨rfl, HX9.out.bel⟩
  · have hsz : (w2.setCell ⟨w.heap.size, 3, none⟩ (.int .i64 (255 + (1 + k0)))).heap.size = w2.heap.size := by simp [World.setCell]
    have hw2 : w.heap.size + 2 ≤ w2.heap.size := HF2.out.2.1
    obtain ⟨C, hmk, hown⟩ := El.mk_row EH ⟨hd0, none, 0⟩ rfl 16 (by decide) (by decide) (w.heap.size + 2) (w2.setCell ⟨w.heap.size, 3, none⟩ (.int .i64 (255 + (1 + k0)))) (by rw [hsz]; exact hw2)
    rw [hsz] at hmk hown
    have hmk' : (Instr.makeSlice 46 (.int .i64 16) (.int .i64 16)).run Try.prog (w2.setCell ⟨w.heap.size, 3, none⟩ (.int .i64 (255 + (1 + k0)))) = .ok (.slice (some ⟨w2.heap.size, 0, none⟩) 16 16) ((w2.setCell ⟨w.heap.size, 3, none⟩ (.int .i64 (255 + (1 + k0)))).alloc (.cells C 61)) := hmk
    clear hmk
    go_upto_region 27 with fail
    clear hmk' e6 f6
    have HX := Lib.hid (((HF2.out.set (i := 0) (b := w.heap.size) rfl rfl 3 (.int .i64 (255 + (1 + k0))))).alloc (.cells C 61))
    have HO : Hid (EH.Own ((w2.setCell ⟨w.heap.size, 3, none⟩ (.int .i64 (255 + (1 + k0)))).alloc (.cells C 61)) (w.heap.size + 2) (.slice (some ⟨w2.heap.size, 0, none⟩) 16 16) (List.replicate 16 ⟨hd0, none, 0⟩)) := hown
    clear hown hsz
    generalize w2.heap.size = lb at *
    generalize (w2.setCell ⟨w.heap.size, 3, none⟩ (.int .i64 (255 + (1 + k0)))).alloc (.cells C 61) = W4 at *
    have e6 : ∀ j : Nat, W4.cell? ⟨w.heap.size, j, none⟩ = (#[.int .i64 (40), .int .i64 (100000), .int .i64 (100000), .int .i64 (255 + (1 + k0)), .int .i64 (255), .int .i64 (1099511627776), .int .i64 (1000)] : Array Value)[j]? := fun j => by
      have := HX.out.cells (i := 0) (b := w.heap.size) rfl rfl j
      simpa only [List.setIfInBounds_toArray, List.set_cons_zero, List.set_cons_succ] using this
    have eo : ∀ (i j : Nat) u, i < 16 → (EH.enc ⟨hd0, none, 0⟩)[j]? = some u → W4.cell? ⟨lb, i * 10 + j, none⟩ = some u ∧ W4.frozen? ⟨lb, i * 10 + j, none⟩ = false := fun i j u hi hu => HO.out.atAddr rfl i _ (by rw [List.getElem?_replicate, if_pos hi]) j u hu
    have c0 := eo 2 0 _ (by decide) rfl
    have c1 := eo 2 1 _ (by decide) rfl
    have c2 := eo 2 2 _ (by decide) rfl
    have c3 := eo 2 3 _ (by decide) rfl
    have c4 := eo 2 4 _ (by decide) rfl
    have c5 := eo 2 5 _ (by decide) rfl
    have c6 := eo 2 6 _ (by decide) rfl
    have c7 := eo 2 7 _ (by decide) rfl
    have c8 := eo 2 8 _ (by decide) rfl
    have c9 := eo 2 9 _ (by decide) rfl
    clear eo
    simp only [Nat.reduceMul, Nat.reduceAdd] at c0 c1 c2 c3 c4 c5 c6 c7 c8 c9
    go_upto_region 28 with fail
    have hy : Hid (limB ⟨(40), (100000), (100000), (255 + (1 + k0)), (255), (1099511627776), (1000)⟩ = false) := by
      unfold Hid
      rw [Bool.eq_false_iff]; intro h; unfold limB at h; simp only [Bool.and_eq_true, inB_iff] at h; omega
    have HO5 : Hid (EH.Own ((((((((((W4.setCell ⟨lb, 20, none⟩ (.int .i64 1)).setCell ⟨lb, 21, none⟩ (.int .i64 1)).setCell ⟨lb, 22, none⟩ (.int .i64 (40))).setCell ⟨lb, 23, none⟩ (.int .i64 (100000))).setCell ⟨lb, 24, none⟩ (.int .i64 (100000))).setCell ⟨lb, 25, none⟩ (.int .i64 (255 + (1 + k0)))).setCell ⟨lb, 26, none⟩ (.int .i64 (255))).setCell ⟨lb, 27, none⟩ (.int .i64 (1099511627776))).setCell ⟨lb, 28, none⟩ (.int .i64 (1000))).setCell ⟨lb, 29, none⟩ (.slice none 0 0)) (w.heap.size + 2) (.slice (some ⟨lb, 0, none⟩) 16 16) ((List.replicate 16 ⟨hd0, none, 0⟩).set 2 ⟨⟨1, 1, ⟨(40), (100000), (100000), (255 + (1 + k0)), (255), (1099511627776), (1000)⟩, []⟩, none, 0⟩)) := own_put HO.out 2 ⟨hd0, none, 0⟩ ⟨⟨1, 1, ⟨(40), (100000), (100000), (255 + (1 + k0)), (255), (1099511627776), (1000)⟩, []⟩, none, 0⟩ rfl
    have HX5 : Hid (Fr w ((((((((((W4.setCell ⟨lb, 20, none⟩ (.int .i64 1)).setCell ⟨lb, 21, none⟩ (.int .i64 1)).setCell ⟨lb, 22, none⟩ (.int .i64 (40))).setCell ⟨lb, 23, none⟩ (.int .i64 (100000))).setCell ⟨lb, 24, none⟩ (.int .i64 (100000))).setCell ⟨lb, 25, none⟩ (.int .i64 (255 + (1 + k0)))).setCell ⟨lb, 26, none⟩ (.int .i64 (255))).setCell ⟨lb, 27, none⟩ (.int .i64 (1099511627776))).setCell ⟨lb, 28, none⟩ (.int .i64 (1000))).setCell ⟨lb, 29, none⟩ (.slice none 0 0)) _) := ((((((((((HX.out.far (p := ⟨lb, 20, none⟩) hw2 (.int .i64 1)).far (p := ⟨lb, 21, none⟩) hw2 (.int .i64 1)).far (p := ⟨lb, 22, none⟩) hw2 (.int .i64 (40))).far (p := ⟨lb, 23, none⟩) hw2 (.int .i64 (100000))).far (p := ⟨lb, 24, none⟩) hw2 (.int .i64 (100000))).far (p := ⟨lb, 25, none⟩) hw2 (.int .i64 (255 + (1 + k0)))).far (p := ⟨lb, 26, none⟩) hw2 (.int .i64 (255))).far (p := ⟨lb, 27, none⟩) hw2 (.int .i64 (1099511627776))).far (p := ⟨lb, 28, none⟩) hw2 (.int .i64 (1000))).far (p := ⟨lb, 29, none⟩) hw2 (.slice none 0 0))
    clear HO HX c0 c1 c2 c3 c4 c5 c6 c7 c8 c9 e6 HF2
    generalize ((((((((((W4.setCell ⟨lb, 20, none⟩ (.int .i64 1)).setCell ⟨lb, 21, none⟩ (.int .i64 1)).setCell ⟨lb, 22, none⟩ (.int .i64 (40))).setCell ⟨lb, 23, none⟩ (.int .i64 (100000))).setCell ⟨lb, 24, none⟩ (.int .i64 (100000))).setCell ⟨lb, 25, none⟩ (.int .i64 (255 + (1 + k0)))).setCell ⟨lb, 26, none⟩ (.int .i64 (255))).setCell ⟨lb, 27, none⟩ (.int .i64 (1099511627776))).setCell ⟨lb, 28, none⟩ (.int .i64 (1000))).setCell ⟨lb, 29, none⟩ (.slice none 0 0)) = W5 at *
    have e6 : ∀ j : Nat, W5.cell? ⟨w.heap.size, j, none⟩ = (#[.int .i64 (40), .int .i64 (100000), .int .i64 (100000), .int .i64 (255 + (1 + k0)), .int .i64 (255), .int .i64 (1099511627776), .int .i64 (1000)] : Array Value)[j]? := fun j => by
      have := HX5.out.cells (i := 0) (b := w.heap.size) rfl rfl j
      simpa only [List.setIfInBounds_toArray, List.set_cons_zero, List.set_cons_succ] using this
    have HR := Lib.hid (one_reads HO5.out)
    generalize hLL : (⟨(40), (100000), (100000), (255 + (1 + k0)), (255), (1099511627776), (1000)⟩ : Lim) = LL at *
    go_wp2_with fail
    refine (tput_val 1 _ _ _ HR.out (by simp) (one_short _) none (one_none hy.out)).mono ?_
    rintro e w6 ⟨rfl, hb⟩
    have HX6 := Lib.hid (HX5.out.below hb)
    have HR6 := Lib.hid (HR.out.below hb)
    have e6' : ∀ j : Nat, w6.cell? ⟨w.heap.size, j, none⟩ = (#[.int .i64 (40), .int .i64 (100000), .int .i64 (100000), .int .i64 (255 + (1 + k0)), .int .i64 (255), .int .i64 (1099511627776), .int .i64 (1000)] : Array Value)[j]? := fun j => (hb.cell (p := ⟨w.heap.size, j, none⟩) (HX5.out.lt (i := 0) (b := w.heap.size) (by simp) rfl)).trans (e6 j)
    clear hb e6 HX5 HR
    unfold putAns
    go_wp2_with fail
    refine (climit_val ⟨(40), (100000), (100000), (255 + (1 + k0)), (255), (1099511627776), (1000)⟩ false _ (by rw [hLL]; exact hy.out)).mono ?_
    rintro e w7 ⟨rfl, hb⟩
    have HX7 := Lib.hid (HX6.out.below hb)
    have HR7 := Lib.hid (HR6.out.below hb)
    clear hb e6' HX6 HR6
    go_wp2_with fail
    refine (tcheck_any 1000 _ _ _ HR7.out (by decide) (by simp) (one_short _)).mono ?_
    rw [one_bad 1000 hy.out]
    rintro e w8 ⟨rfl, hb⟩
    have HX8 := Lib.hid (HX7.out.below hb)
    clear hb HX7 HR7
    go_wp2_with fail
    refine (awake6_any _).mono ?_
    rintro e w9 ⟨rfl, hb⟩
    have HX9 := Lib.hid (HX8.out.below hb)
    clear hb HX8
    go_wp2_with fail
    go_ret
    exact ⟨rfl, HX9.out.bel⟩
  · have hsz : ((w2.setCell ⟨w.heap.size, 4, none⟩ (.int .i64 (1 + (1 + k0) % 200))).setCell ⟨w.heap.size, 3, none⟩ (.int .i64 ((1 + k0) % 200))).heap.size = w2.heap.size := by simp [World.setCell]
    have hw2 : w.heap.size + 2 ≤ w2.heap.size := HF2.out.2.1
    obtain ⟨C, hmk, hown⟩ := El.mk_row EH ⟨hd0, none, 0⟩ rfl 16 (by decide) (by decide) (w.heap.size + 2) ((w2.setCell ⟨w.heap.size, 4, none⟩ (.int .i64 (1 + (1 + k0) % 200))).setCell ⟨w.heap.size, 3, none⟩ (.int .i64 ((1 + k0) % 200))) (by rw [hsz]; exact hw2)
    rw [hsz] at hmk hown
    have hmk' : (Instr.makeSlice 46 (.int .i64 16) (.int .i64 16)).run Try.prog ((w2.setCell ⟨w.heap.size, 4, none⟩ (.int .i64 (1 + (1 + k0) % 200))).setCell ⟨w.heap.size, 3, none⟩ (.int .i64 ((1 + k0) % 200))) = .ok (.slice (some ⟨w2.heap.size, 0, none⟩) 16 16) (((w2.setCell ⟨w.heap.size, 4, none⟩ (.int .i64 (1 + (1 + k0) % 200))).setCell ⟨w.heap.size, 3, none⟩ (.int .i64 ((1 + k0) % 200))).alloc (.cells C 61)) := hmk
    clear hmk
    go_upto_region 27 with fail
    clear hmk' e6 f6
    have HX := Lib.hid ((((HF2.out.set (i := 0) (b := w.heap.size) rfl rfl 4 (.int .i64 (1 + (1 + k0) % 200))).set (i := 0) (b := w.heap.size) rfl rfl 3 (.int .i64 ((1 + k0) % 200)))).alloc (.cells C 61))
    have HO : Hid (EH.Own (((w2.setCell ⟨w.heap.size, 4, none⟩ (.int .i64 (1 + (1 + k0) % 200))).setCell ⟨w.heap.size, 3, none⟩ (.int .i64 ((1 + k0) % 200))).alloc (.cells C 61)) (w.heap.size + 2) (.slice (some ⟨w2.heap.size, 0, none⟩) 16 16) (List.replicate 16 ⟨hd0, none, 0⟩)) := hown
    clear hown hsz
    generalize w2.heap.size = lb at *
    generalize ((w2.setCell ⟨w.heap.size, 4, none⟩ (.int .i64 (1 + (1 + k0) % 200))).setCell ⟨w.heap.size, 3, none⟩ (.int .i64 ((1 + k0) % 200))).alloc (.cells C 61) = W4 at *
    have e6 : ∀ j : Nat, W4.cell? ⟨w.heap.size, j, none⟩ = (#[.int .i64 (40), .int .i64 (100000), .int .i64 (100000), .int .i64 ((1 + k0) % 200), .int .i64 (1 + (1 + k0) % 200), .int .i64 (1099511627776), .int .i64 (1000)] : Array Value)[j]? := fun j => by
      have := HX.out.cells (i := 0) (b := w.heap.size) rfl rfl j
      simpa only [List.setIfInBounds_toArray, List.set_cons_zero, List.set_cons_succ] using this
    have eo : ∀ (i j : Nat) u, i < 16 → (EH.enc ⟨hd0, none, 0⟩)[j]? = some u → W4.cell? ⟨lb, i * 10 + j, none⟩ = some u ∧ W4.frozen? ⟨lb, i * 10 + j, none⟩ = false := fun i j u hi hu => HO.out.atAddr rfl i _ (by rw [List.getElem?_replicate, if_pos hi]) j u hu
    have c0 := eo 2 0 _ (by decide) rfl
    have c1 := eo 2 1 _ (by decide) rfl
    have c2 := eo 2 2 _ (by decide) rfl
    have c3 := eo 2 3 _ (by decide) rfl
    have c4 := eo 2 4 _ (by decide) rfl
    have c5 := eo 2 5 _ (by decide) rfl
    have c6 := eo 2 6 _ (by decide) rfl
    have c7 := eo 2 7 _ (by decide) rfl
    have c8 := eo 2 8 _ (by decide) rfl
    have c9 := eo 2 9 _ (by decide) rfl
    clear eo
    simp only [Nat.reduceMul, Nat.reduceAdd] at c0 c1 c2 c3 c4 c5 c6 c7 c8 c9
    go_upto_region 28 with fail
    have hy : Hid (limB ⟨(40), (100000), (100000), ((1 + k0) % 200), (1 + (1 + k0) % 200), (1099511627776), (1000)⟩ = false) := by
      unfold Hid
      rw [Bool.eq_false_iff]; intro h; unfold limB at h; simp only [Bool.and_eq_true, inB_iff] at h; omega
    have HO5 : Hid (EH.Own ((((((((((W4.setCell ⟨lb, 20, none⟩ (.int .i64 1)).setCell ⟨lb, 21, none⟩ (.int .i64 1)).setCell ⟨lb, 22, none⟩ (.int .i64 (40))).setCell ⟨lb, 23, none⟩ (.int .i64 (100000))).setCell ⟨lb, 24, none⟩ (.int .i64 (100000))).setCell ⟨lb, 25, none⟩ (.int .i64 ((1 + k0) % 200))).setCell ⟨lb, 26, none⟩ (.int .i64 (1 + (1 + k0) % 200))).setCell ⟨lb, 27, none⟩ (.int .i64 (1099511627776))).setCell ⟨lb, 28, none⟩ (.int .i64 (1000))).setCell ⟨lb, 29, none⟩ (.slice none 0 0)) (w.heap.size + 2) (.slice (some ⟨lb, 0, none⟩) 16 16) ((List.replicate 16 ⟨hd0, none, 0⟩).set 2 ⟨⟨1, 1, ⟨(40), (100000), (100000), ((1 + k0) % 200), (1 + (1 + k0) % 200), (1099511627776), (1000)⟩, []⟩, none, 0⟩)) := own_put HO.out 2 ⟨hd0, none, 0⟩ ⟨⟨1, 1, ⟨(40), (100000), (100000), ((1 + k0) % 200), (1 + (1 + k0) % 200), (1099511627776), (1000)⟩, []⟩, none, 0⟩ rfl
    have HX5 : Hid (Fr w ((((((((((W4.setCell ⟨lb, 20, none⟩ (.int .i64 1)).setCell ⟨lb, 21, none⟩ (.int .i64 1)).setCell ⟨lb, 22, none⟩ (.int .i64 (40))).setCell ⟨lb, 23, none⟩ (.int .i64 (100000))).setCell ⟨lb, 24, none⟩ (.int .i64 (100000))).setCell ⟨lb, 25, none⟩ (.int .i64 ((1 + k0) % 200))).setCell ⟨lb, 26, none⟩ (.int .i64 (1 + (1 + k0) % 200))).setCell ⟨lb, 27, none⟩ (.int .i64 (1099511627776))).setCell ⟨lb, 28, none⟩ (.int .i64 (1000))).setCell ⟨lb, 29, none⟩ (.slice none 0 0)) _) := ((((((((((HX.out.far (p := ⟨lb, 20, none⟩) hw2 (.int .i64 1)).far (p := ⟨lb, 21, none⟩) hw2 (.int .i64 1)).far (p := ⟨lb, 22, none⟩) hw2 (.int .i64 (40))).far (p := ⟨lb, 23, none⟩) hw2 (.int .i64 (100000))).far (p := ⟨lb, 24, none⟩) hw2 (.int .i64 (100000))).far (p := ⟨lb, 25, none⟩) hw2 (.int .i64 ((1 + k0) % 200))).far (p := ⟨lb, 26, none⟩) hw2 (.int .i64 (1 + (1 + k0) % 200))).far (p := ⟨lb, 27, none⟩) hw2 (.int .i64 (1099511627776))).far (p := ⟨lb, 28, none⟩) hw2 (.int .i64 (1000))).far (p := ⟨lb, 29, none⟩) hw2 (.slice none 0 0))
    clear HO HX c0 c1 c2 c3 c4 c5 c6 c7 c8 c9 e6 HF2
    generalize ((((((((((W4.setCell ⟨lb, 20, none⟩ (.int .i64 1)).setCell ⟨lb, 21, none⟩ (.int .i64 1)).setCell ⟨lb, 22, none⟩ (.int .i64 (40))).setCell ⟨lb, 23, none⟩ (.int .i64 (100000))).setCell ⟨lb, 24, none⟩ (.int .i64 (100000))).setCell ⟨lb, 25, none⟩ (.int .i64 ((1 + k0) % 200))).setCell ⟨lb, 26, none⟩ (.int .i64 (1 + (1 + k0) % 200))).setCell ⟨lb, 27, none⟩ (.int .i64 (1099511627776))).setCell ⟨lb, 28, none⟩ (.int .i64 (1000))).setCell ⟨lb, 29, none⟩ (.slice none 0 0)) = W5 at *
    have e6 : ∀ j : Nat, W5.cell? ⟨w.heap.size, j, none⟩ = (#[.int .i64 (40), .int .i64 (100000), .int .i64 (100000), .int .i64 ((1 + k0) % 200), .int .i64 (1 + (1 + k0) % 200), .int .i64 (1099511627776), .int .i64 (1000)] : Array Value)[j]? := fun j => by
      have := HX5.out.cells (i := 0) (b := w.heap.size) rfl rfl j
      simpa only [List.setIfInBounds_toArray, List.set_cons_zero, List.set_cons_succ] using this
    have HR := Lib.hid (one_reads HO5.out)
    generalize hLL : (⟨(40), (100000), (100000), ((1 + k0) % 200), (1 + (1 + k0) % 200), (1099511627776), (1000)⟩ : Lim) = LL at *
    go_wp2_with fail
    refine (tput_val 1 _ _ _ HR.out (by simp) (one_short _) none (one_none hy.out)).mono ?_
    rintro e w6 ⟨rfl, hb⟩
    have HX6 := Lib.hid (HX5.out.below hb)
    have HR6 := Lib.hid (HR.out.below hb)
    have e6' : ∀ j : Nat, w6.cell? ⟨w.heap.size, j, none⟩ = (#[.int .i64 (40), .int .i64 (100000), .int .i64 (100000), .int .i64 ((1 + k0) % 200), .int .i64 (1 + (1 + k0) % 200), .int .i64 (1099511627776), .int .i64 (1000)] : Array Value)[j]? := fun j => (hb.cell (p := ⟨w.heap.size, j, none⟩) (HX5.out.lt (i := 0) (b := w.heap.size) (by simp) rfl)).trans (e6 j)
    clear hb e6 HX5 HR
    unfold putAns
    go_wp2_with fail
    refine (climit_val ⟨(40), (100000), (100000), ((1 + k0) % 200), (1 + (1 + k0) % 200), (1099511627776), (1000)⟩ false _ (by rw [hLL]; exact hy.out)).mono ?_
    rintro e w7 ⟨rfl, hb⟩
    have HX7 := Lib.hid (HX6.out.below hb)
    have HR7 := Lib.hid (HR6.out.below hb)
    clear hb e6' HX6 HR6
    go_wp2_with fail
    refine (tcheck_any 1000 _ _ _ HR7.out (by decide) (by simp) (one_short _)).mono ?_
    rw [one_bad 1000 hy.out]
    rintro e w8 ⟨rfl, hb⟩
    have HX8 := Lib.hid (HX7.out.below hb)
    clear hb HX7 HR7
    go_wp2_with fail
    refine (awake6_any _).mono ?_
    rintro e w9 ⟨rfl, hb⟩
    have HX9 := Lib.hid (HX8.out.below hb)
    clear hb HX8
    go_wp2_with fail
    go_ret
    exact ⟨rfl, HX9.out.bel⟩
  · have hsz : (w2.setCell ⟨w.heap.size, 5, none⟩ (.int .i64 (1099511627776 + (1 + k0)))).heap.size = w2.heap.size := by simp [World.setCell]
    have hw2 : w.heap.size + 2 ≤ w2.heap.size := HF2.out.2.1
    obtain ⟨C, hmk, hown⟩ := El.mk_row EH ⟨hd0, none, 0⟩ rfl 16 (by decide) (by decide) (w.heap.size + 2) (w2.setCell ⟨w.heap.size, 5, none⟩ (.int .i64 (1099511627776 + (1 + k0)))) (by rw [hsz]; exact hw2)
    rw [hsz] at hmk hown
    have hmk' : (Instr.makeSlice 46 (.int .i64 16) (.int .i64 16)).run Try.prog (w2.setCell ⟨w.heap.size, 5, none⟩ (.int .i64 (1099511627776 + (1 + k0)))) = .ok (.slice (some ⟨w2.heap.size, 0, none⟩) 16 16) ((w2.setCell ⟨w.heap.size, 5, none⟩ (.int .i64 (1099511627776 + (1 + k0)))).alloc (.cells C 61)) := hmk
    clear hmk
    go_upto_region 27 with fail
    clear hmk' e6 f6
    have HX := Lib.hid (((HF2.out.set (i := 0) (b := w.heap.size) rfl rfl 5 (.int .i64 (1099511627776 + (1 + k0))))).alloc (.cells C 61))
    have HO : Hid (EH.Own ((w2.setCell ⟨w.heap.size, 5, none⟩ (.int .i64 (1099511627776 + (1 + k0)))).alloc (.cells C 61)) (w.heap.size + 2) (.slice (some ⟨w2.heap.size, 0, none⟩) 16 16) (List.replicate 16 ⟨hd0, none, 0⟩)) := hown
    clear hown hsz
    generalize w2.heap.size = lb at *
    generalize (w2.setCell ⟨w.heap.size, 5, none⟩ (.int .i64 (1099511627776 + (1 + k0)))).alloc (.cells C 61) = W4 at *
    have e6 : ∀ j : Nat, W4.cell? ⟨w.heap.size, j, none⟩ = (#[.int .i64 (40), .int .i64 (100000), .int .i64 (100000), .int .i64 (255), .int .i64 (255), .int .i64 (1099511627776 + (1 + k0)), .int .i64 (1000)] : Array Value)[j]? := fun j => by
      have := HX.out.cells (i := 0) (b := w.heap.size) rfl rfl j
      simpa only [List.setIfInBounds_toArray, List.set_cons_zero, List.set_cons_succ] using this
    have eo : ∀ (i j : Nat) u, i < 16 → (EH.enc ⟨hd0, none, 0⟩)[j]? = some u → W4.cell? ⟨lb, i * 10 + j, none⟩ = some u ∧ W4.frozen? ⟨lb, i * 10 + j, none⟩ = false := fun i j u hi hu => HO.out.atAddr rfl i _ (by rw [List.getElem?_replicate, if_pos hi]) j u hu
    have c0 := eo 2 0 _ (by decide) rfl
    have c1 := eo 2 1 _ (by decide) rfl
    have c2 := eo 2 2 _ (by decide) rfl
    have c3 := eo 2 3 _ (by decide) rfl
    have c4 := eo 2 4 _ (by decide) rfl
    have c5 := eo 2 5 _ (by decide) rfl
    have c6 := eo 2 6 _ (by decide) rfl
    have c7 := eo 2 7 _ (by decide) rfl
    have c8 := eo 2 8 _ (by decide) rfl
    have c9 := eo 2 9 _ (by decide) rfl
    clear eo
    simp only [Nat.reduceMul, Nat.reduceAdd] at c0 c1 c2 c3 c4 c5 c6 c7 c8 c9
    go_upto_region 28 with fail
    have hy : Hid (limB ⟨(40), (100000), (100000), (255), (255), (1099511627776 + (1 + k0)), (1000)⟩ = false) := by
      unfold Hid
      rw [Bool.eq_false_iff]; intro h; unfold limB at h; simp only [Bool.and_eq_true, inB_iff] at h; omega
    have HO5 : Hid (EH.Own ((((((((((W4.setCell ⟨lb, 20, none⟩ (.int .i64 1)).setCell ⟨lb, 21, none⟩ (.int .i64 1)).setCell ⟨lb, 22, none⟩ (.int .i64 (40))).setCell ⟨lb, 23, none⟩ (.int .i64 (100000))).setCell ⟨lb, 24, none⟩ (.int .i64 (100000))).setCell ⟨lb, 25, none⟩ (.int .i64 (255))).setCell ⟨lb, 26, none⟩ (.int .i64 (255))).setCell ⟨lb, 27, none⟩ (.int .i64 (1099511627776 + (1 + k0)))).setCell ⟨lb, 28, none⟩ (.int .i64 (1000))).setCell ⟨lb, 29, none⟩ (.slice none 0 0)) (w.heap.size + 2) (.slice (some ⟨lb, 0, none⟩) 16 16) ((List.replicate 16 ⟨hd0, none, 0⟩).set 2 ⟨⟨1, 1, ⟨(40), (100000), (100000), (255), (255), (1099511627776 + (1 + k0)), (1000)⟩, []⟩, none, 0⟩)) := own_put HO.out 2 ⟨hd0, none, 0⟩ ⟨⟨1, 1, ⟨(40), (100000), (100000), (255), (255), (1099511627776 + (1 + k0)), (1000)⟩, []⟩, none, 0⟩ rfl
    have HX5 : Hid (Fr w ((((((((((W4.setCell ⟨lb, 20, none⟩ (.int .i64 1)).setCell ⟨lb, 21, none⟩ (.int .i64 1)).setCell ⟨lb, 22, none⟩ (.int .i64 (40))).setCell ⟨lb, 23, none⟩ (.int .i64 (100000))).setCell ⟨lb, 24, none⟩ (.int .i64 (100000))).setCell ⟨lb, 25, none⟩ (.int .i64 (255))).setCell ⟨lb, 26, none⟩ (.int .i64 (255))).setCell ⟨lb, 27, none⟩ (.int .i64 (1099511627776 + (1 + k0)))).setCell ⟨lb, 28, none⟩ (.int .i64 (1000))).setCell ⟨lb, 29, none⟩ (.slice none 0 0)) _) := ((((((((((HX.out.far (p := ⟨lb, 20, none⟩) hw2 (.int .i64 1)).far (p := ⟨lb, 21, none⟩) hw2 (.int .i64 1)).far (p := ⟨lb, 22, none⟩) hw2 (.int .i64 (40))).far (p := ⟨lb, 23, none⟩) hw2 (.int .i64 (100000))).far (p := ⟨lb, 24, none⟩) hw2 (.int .i64 (100000))).far (p := ⟨lb, 25, none⟩) hw2 (.int .i64 (255))).far (p := ⟨lb, 26, none⟩) hw2 (.int .i64 (255))).far (p := ⟨lb, 27, none⟩) hw2 (.int .i64 (1099511627776 + (1 + k0)))).far (p := ⟨lb, 28, none⟩) hw2 (.int .i64 (1000))).far (p := ⟨lb, 29, none⟩) hw2 (.slice none 0 0))
    clear HO HX c0 c1 c2 c3 c4 c5 c6 c7 c8 c9 e6 HF2
    generalize ((((((((((W4.setCell ⟨lb, 20, none⟩ (.int .i64 1)).setCell ⟨lb, 21, none⟩ (.int .i64 1)).setCell ⟨lb, 22, none⟩ (.int .i64 (40))).setCell ⟨lb, 23, none⟩ (.int .i64 (100000))).setCell ⟨lb, 24, none⟩ (.int .i64 (100000))).setCell ⟨lb, 25, none⟩ (.int .i64 (255))).setCell ⟨lb, 26, none⟩ (.int .i64 (255))).setCell ⟨lb, 27, none⟩ (.int .i64 (1099511627776 + (1 + k0)))).setCell ⟨lb, 28, none⟩ (.int .i64 (1000))).setCell ⟨lb, 29, none⟩ (.slice none 0 0)) = W5 at *
    have e6 : ∀ j : Nat, W5.cell? ⟨w.heap.size, j, none⟩ = (#[.int .i64 (40), .int .i64 (100000), .int .i64 (100000), .int .i64 (255), .int .i64 (255), .int .i64 (1099511627776 + (1 + k0)), .int .i64 (1000)] : Array Value)[j]? := fun j => by
      have := HX5.out.cells (i := 0) (b := w.heap.size) rfl rfl j
      simpa only [List.setIfInBounds_toArray, List.set_cons_zero, List.set_cons_succ] using this
    have HR := Lib.hid (one_reads HO5.out)
    generalize hLL : (⟨(40), (100000), (100000), (255), (255), (1099511627776 + (1 + k0)), (1000)⟩ : Lim) = LL at *
    go_wp2_with fail
    refine (tput_val 1 _ _ _ HR.out (by simp) (one_short _) none (one_none hy.out)).mono ?_
    rintro e w6 ⟨rfl, hb⟩
    have HX6 := Lib.hid (HX5.out.below hb)
    have HR6 := Lib.hid (HR.out.below hb)
    have e6' : ∀ j : Nat, w6.cell? ⟨w.heap.size, j, none⟩ = (#[.int .i64 (40), .int .i64 (100000), .int .i64 (100000), .int .i64 (255), .int .i64 (255), .int .i64 (1099511627776 + (1 + k0)), .int .i64 (1000)] : Array Value)[j]? := fun j => (hb.cell (p := ⟨w.heap.size, j, none⟩) (HX5.out.lt (i := 0) (b := w.heap.size) (by simp) rfl)).trans (e6 j)
    clear hb e6 HX5 HR
    unfold putAns
    go_wp2_with fail
    refine (climit_val ⟨(40), (100000), (100000), (255), (255), (1099511627776 + (1 + k0)), (1000)⟩ false _ (by rw [hLL]; exact hy.out)).mono ?_
    rintro e w7 ⟨rfl, hb⟩
    have HX7 := Lib.hid (HX6.out.below hb)
    have HR7 := Lib.hid (HR6.out.below hb)
    clear hb e6' HX6 HR6
    go_wp2_with fail
    refine (tcheck_any 1000 _ _ _ HR7.out (by decide) (by simp) (one_short _)).mono ?_
    rw [one_bad 1000 hy.out]
    rintro e w8 ⟨rfl, hb⟩
    have HX8 := Lib.hid (HX7.out.below hb)
    clear hb HX7 HR7
    go_wp2_with fail
    refine (awake6_any _).mono ?_
    rintro e w9 ⟨rfl, hb⟩
    have HX9 := Lib.hid (HX8.out.below hb)
    clear hb HX8
    go_wp2_with fail
    go_ret
    exact ⟨rfl, HX9.out.bel⟩
  · have hsz : (w2.setCell ⟨w.heap.size, 6, none⟩ (.int .i64 (1000 + (1 + k0)))).heap.size = w2.heap.size := by simp [World.setCell]
    have hw2 : w.heap.size + 2 ≤ w2.heap.size := HF2.out.2.1
    obtain ⟨C, hmk, hown⟩ := El.mk_row EH ⟨hd0, none, 0⟩ rfl 16 (by decide) (by decide) (w.heap.size + 2) (w2.setCell ⟨w.heap.size, 6, none⟩ (.int .i64 (1000 + (1 + k0)))) (by rw [hsz]; exact hw2)
    rw [hsz] at hmk hown
    have hmk' : (Instr.makeSlice 46 (.int .i64 16) (.int .i64 16)).run Try.prog (w2.setCell ⟨w.heap.size, 6, none⟩ (.int .i64 (1000 + (1 + k0)))) = .ok (.slice (some ⟨w2.heap.size, 0, none⟩) 16 16) ((w2.setCell ⟨w.heap.size, 6, none⟩ (.int .i64 (1000 + (1 + k0)))).alloc (.cells C 61)) := hmk
    clear hmk
    go_upto_region 27 with fail
    clear hmk' e6 f6
    have HX := Lib.hid (((HF2.out.set (i := 0) (b := w.heap.size) rfl rfl 6 (.int .i64 (1000 + (1 + k0))))).alloc (.cells C 61))
    have HO : Hid (EH.Own ((w2.setCell ⟨w.heap.size, 6, none⟩ (.int .i64 (1000 + (1 + k0)))).alloc (.cells C 61)) (w.heap.size + 2) (.slice (some ⟨w2.heap.size, 0, none⟩) 16 16) (List.replicate 16 ⟨hd0, none, 0⟩)) := hown
    clear hown hsz
    generalize w2.heap.size = lb at *
    generalize (w2.setCell ⟨w.heap.size, 6, none⟩ (.int .i64 (1000 + (1 + k0)))).alloc (.cells C 61) = W4 at *
    have e6 : ∀ j : Nat, W4.cell? ⟨w.heap.size, j, none⟩ = (#[.int .i64 (40), .int .i64 (100000), .int .i64 (100000), .int .i64 (255), .int .i64 (255), .int .i64 (1099511627776), .int .i64 (1000 + (1 + k0))] : Array Value)[j]? := fun j => by
      have := HX.out.cells (i := 0) (b := w.heap.size) rfl rfl j
      simpa only [List.setIfInBounds_toArray, List.set_cons_zero, List.set_cons_succ] using this
    have eo : ∀ (i j : Nat) u, i < 16 → (EH.enc ⟨hd0, none, 0⟩)[j]? = some u → W4.cell? ⟨lb, i * 10 + j, none⟩ = some u ∧ W4.frozen? ⟨lb, i * 10 + j, none⟩ = false := fun i j u hi hu => HO.out.atAddr rfl i _ (by rw [List.getElem?_replicate, if_pos hi]) j u hu
    have c0 := eo 2 0 _ (by decide) rfl
    have c1 := eo 2 1 _ (by decide) rfl
    have c2 := eo 2 2 _ (by decide) rfl
    have c3 := eo 2 3 _ (by decide) rfl
    have c4 := eo 2 4 _ (by decide) rfl
    have c5 := eo 2 5 _ (by decide) rfl
    have c6 := eo 2 6 _ (by decide) rfl
    have c7 := eo 2 7 _ (by decide) rfl
    have c8 := eo 2 8 _ (by decide) rfl
    have c9 := eo 2 9 _ (by decide) rfl
    clear eo
    simp only [Nat.reduceMul, Nat.reduceAdd] at c0 c1 c2 c3 c4 c5 c6 c7 c8 c9
    go_upto_region 28 with fail
    have hy : Hid (limB ⟨(40), (100000), (100000), (255), (255), (1099511627776), (1000 + (1 + k0))⟩ = false) := by
      unfold Hid
      rw [Bool.eq_false_iff]; intro h; unfold limB at h; simp only [Bool.and_eq_true, inB_iff] at h; omega
    have HO5 : Hid (EH.Own ((((((((((W4.setCell ⟨lb, 20, none⟩ (.int .i64 1)).setCell ⟨lb, 21, none⟩ (.int .i64 1)).setCell ⟨lb, 22, none⟩ (.int .i64 (40))).setCell ⟨lb, 23, none⟩ (.int .i64 (100000))).setCell ⟨lb, 24, none⟩ (.int .i64 (100000))).setCell ⟨lb, 25, none⟩ (.int .i64 (255))).setCell ⟨lb, 26, none⟩ (.int .i64 (255))).setCell ⟨lb, 27, none⟩ (.int .i64 (1099511627776))).setCell ⟨lb, 28, none⟩ (.int .i64 (1000 + (1 + k0)))).setCell ⟨lb, 29, none⟩ (.slice none 0 0)) (w.heap.size + 2) (.slice (some ⟨lb, 0, none⟩) 16 16) ((List.replicate 16 ⟨hd0, none, 0⟩).set 2 ⟨⟨1, 1, ⟨(40), (100000), (100000), (255), (255), (1099511627776), (1000 + (1 + k0))⟩, []⟩, none, 0⟩)) := own_put HO.out 2 ⟨hd0, none, 0⟩ ⟨⟨1, 1, ⟨(40), (100000), (100000), (255), (255), (1099511627776), (1000 + (1 + k0))⟩, []⟩, none, 0⟩ rfl
    have HX5 : Hid (Fr w ((((((((((W4.setCell ⟨lb, 20, none⟩ (.int .i64 1)).setCell ⟨lb, 21, none⟩ (.int .i64 1)).setCell ⟨lb, 22, none⟩ (.int .i64 (40))).setCell ⟨lb, 23, none⟩ (.int .i64 (100000))).setCell ⟨lb, 24, none⟩ (.int .i64 (100000))).setCell ⟨lb, 25, none⟩ (.int .i64 (255))).setCell ⟨lb, 26, none⟩ (.int .i64 (255))).setCell ⟨lb, 27, none⟩ (.int .i64 (1099511627776))).setCell ⟨lb, 28, none⟩ (.int .i64 (1000 + (1 + k0)))).setCell ⟨lb, 29, none⟩ (.slice none 0 0)) _) := ((((((((((HX.out.far (p := ⟨lb, 20, none⟩) hw2 (.int .i64 1)).far (p := ⟨lb, 21, none⟩) hw2 (.int .i64 1)).far (p := ⟨lb, 22, none⟩) hw2 (.int .i64 (40))).far (p := ⟨lb, 23, none⟩) hw2 (.int .i64 (100000))).far (p := ⟨lb, 24, none⟩) hw2 (.int .i64 (100000))).far (p := ⟨lb, 25, none⟩) hw2 (.int .i64 (255))).far (p := ⟨lb, 26, none⟩) hw2 (.int .i64 (255))).far (p := ⟨lb, 27, none⟩) hw2 (.int .i64 (1099511627776))).far (p := ⟨lb, 28, none⟩) hw2 (.int .i64 (1000 + (1 + k0)))).far (p := ⟨lb, 29, none⟩) hw2 (.slice none 0 0))
    clear HO HX c0 c1 c2 c3 c4 c5 c6 c7 c8 c9 e6 HF2
    generalize ((((((((((W4.setCell ⟨lb, 20, none⟩ (.int .i64 1)).setCell ⟨lb, 21, none⟩ (.int .i64 1)).setCell ⟨lb, 22, none⟩ (.int .i64 (40))).setCell ⟨lb, 23, none⟩ (.int .i64 (100000))).setCell ⟨lb, 24, none⟩ (.int .i64 (100000))).setCell ⟨lb, 25, none⟩ (.int .i64 (255))).setCell ⟨lb, 26, none⟩ (.int .i64 (255))).setCell ⟨lb, 27, none⟩ (.int .i64 (1099511627776))).setCell ⟨lb, 28, none⟩ (.int .i64 (1000 + (1 + k0)))).setCell ⟨lb, 29, none⟩ (.slice none 0 0)) = W5 at *
    have e6 : ∀ j : Nat, W5.cell? ⟨w.heap.size, j, none⟩ = (#[.int .i64 (40), .int .i64 (100000), .int .i64 (100000), .int .i64 (255), .int .i64 (255), .int .i64 (1099511627776), .int .i64 (1000 + (1 + k0))] : Array Value)[j]? := fun j => by
      have := HX5.out.cells (i := 0) (b := w.heap.size) rfl rfl j
      simpa only [List.setIfInBounds_toArray, List.set_cons_zero, List.set_cons_succ] using this
    have HR := Lib.hid (one_reads HO5.out)
    generalize hLL : (⟨(40), (100000), (100000), (255), (255), (1099511627776), (1000 + (1 + k0))⟩ : Lim) = LL at *
    go_wp2_with fail
    refine (tput_val 1 _ _ _ HR.out (by simp) (one_short _) none (one_none hy.out)).mono ?_
    rintro e w6 ⟨rfl, hb⟩
    have HX6 := Lib.hid (HX5.out.below hb)
    have HR6 := Lib.hid (HR.out.below hb)
    have e6' : ∀ j : Nat, w6.cell? ⟨w.heap.size, j, none⟩ = (#[.int .i64 (40), .int .i64 (100000), .int .i64 (100000), .int .i64 (255), .int .i64 (255), .int .i64 (1099511627776), .int .i64 (1000 + (1 + k0))] : Array Value)[j]? := fun j => (hb.cell (p := ⟨w.heap.size, j, none⟩) (HX5.out.lt (i := 0) (b := w.heap.size) (by simp) rfl)).trans (e6 j)
    clear hb e6 HX5 HR
    unfold putAns
    go_wp2_with fail
    refine (climit_val ⟨(40), (100000), (100000), (255), (255), (1099511627776), (1000 + (1 + k0))⟩ false _ (by rw [hLL]; exact hy.out)).mono ?_
    rintro e w7 ⟨rfl, hb⟩
    have HX7 := Lib.hid (HX6.out.below hb)
    have HR7 := Lib.hid (HR6.out.below hb)
    clear hb e6' HX6 HR6
    go_wp2_with fail
    refine (tcheck_any 1000 _ _ _ HR7.out (by decide) (by simp) (one_short _)).mono ?_
    rw [one_bad 1000 hy.out]
    rintro e w8 ⟨rfl, hb⟩
    have HX8 := Lib.hid (HX7.out.below hb)
    clear hb HX7 HR7
    go_wp2_with fail
    refine (awake6_any _).mono ?_
    rintro e w9 ⟨rfl, hb⟩
    have HX9 := Lib.hid (HX8.out.below hb)
    clear hb HX8
    go_wp2_with fail
    go_ret
    exact ⟨rfl, HX9.out.bel⟩
  · have hsz : (w2.setCell ⟨w.heap.size, 5, none⟩ (.int .i64 (-(1 + k0)))).heap.size = w2.heap.size := by simp [World.setCell]
    have hw2 : w.heap.size + 2 ≤ w2.heap.size := HF2.out.2.1
    obtain ⟨C, hmk, hown⟩ := El.mk_row EH ⟨hd0, none, 0⟩ rfl 16 (by decide) (by decide) (w.heap.size + 2) (w2.setCell ⟨w.heap.size, 5, none⟩ (.int .i64 (-(1 + k0)))) (by rw [hsz]; exact hw2)
    rw [hsz] at hmk hown
    have hmk' : (Instr.makeSlice 46 (.int .i64 16) (.int .i64 16)).run Try.prog (w2.setCell ⟨w.heap.size, 5, none⟩ (.int .i64 (-(1 + k0)))) = .ok (.slice (some ⟨w2.heap.size, 0, none⟩) 16 16) ((w2.setCell ⟨w.heap.size, 5, none⟩ (.int .i64 (-(1 + k0)))).alloc (.cells C 61)) := hmk
    clear hmk
    go_upto_region 27 with fail
    clear hmk' e6 f6
    have HX := Lib.hid (((HF2.out.set (i := 0) (b := w.heap.size) rfl rfl 5 (.int .i64 (-(1 + k0))))).alloc (.cells C 61))
    have HO : Hid (EH.Own ((w2.setCell ⟨w.heap.size, 5, none⟩ (.int .i64 (-(1 + k0)))).alloc (.cells C 61)) (w.heap.size + 2) (.slice (some ⟨w2.heap.size, 0, none⟩) 16 16) (List.replicate 16 ⟨hd0, none, 0⟩)) := hown
    clear hown hsz
    generalize w2.heap.size = lb at *
    generalize (w2.setCell ⟨w.heap.size, 5, none⟩ (.int .i64 (-(1 + k0)))).alloc (.cells C 61) = W4 at *
    have e6 : ∀ j : Nat, W4.cell? ⟨w.heap.size, j, none⟩ = (#[.int .i64 (40), .int .i64 (100000), .int .i64 (100000), .int .i64 (255), .int .i64 (255), .int .i64 (-(1 + k0)), .int .i64 (1000)] : Array Value)[j]? := fun j => by
      have := HX.out.cells (i := 0) (b := w.heap.size) rfl rfl j
      simpa only [List.setIfInBounds_toArray, List.set_cons_zero, List.set_cons_succ] using this
    have eo : ∀ (i j : Nat) u, i < 16 → (EH.enc ⟨hd0, none, 0⟩)[j]? = some u → W4.cell? ⟨lb, i * 10 + j, none⟩ = some u ∧ W4.frozen? ⟨lb, i * 10 + j, none⟩ = false := fun i j u hi hu => HO.out.atAddr rfl i _ (by rw [List.getElem?_replicate, if_pos hi]) j u hu
    have c0 := eo 2 0 _ (by decide) rfl
    have c1 := eo 2 1 _ (by decide) rfl
    have c2 := eo 2 2 _ (by decide) rfl
    have c3 := eo 2 3 _ (by decide) rfl
    have c4 := eo 2 4 _ (by decide) rfl
    have c5 := eo 2 5 _ (by decide) rfl
    have c6 := eo 2 6 _ (by decide) rfl
    have c7 := eo 2 7 _ (by decide) rfl
    have c8 := eo 2 8 _ (by decide) rfl
    have c9 := eo 2 9 _ (by decide) rfl
    clear eo
    simp only [Nat.reduceMul, Nat.reduceAdd] at c0 c1 c2 c3 c4 c5 c6 c7 c8 c9
    go_upto_region 28 with fail
    have hy : Hid (limB ⟨(40), (100000), (100000), (255), (255), (-(1 + k0)), (1000)⟩ = false) := by
      unfold Hid
      rw [Bool.eq_false_iff]; intro h; unfold limB at h; simp only [Bool.and_eq_true, inB_iff] at h; omega
    have HO5 : Hid (EH.Own ((((((((((W4.setCell ⟨lb, 20, none⟩ (.int .i64 1)).setCell ⟨lb, 21, none⟩ (.int .i64 1)).setCell ⟨lb, 22, none⟩ (.int .i64 (40))).setCell ⟨lb, 23, none⟩ (.int .i64 (100000))).setCell ⟨lb, 24, none⟩ (.int .i64 (100000))).setCell ⟨lb, 25, none⟩ (.int .i64 (255))).setCell ⟨lb, 26, none⟩ (.int .i64 (255))).setCell ⟨lb, 27, none⟩ (.int .i64 (-(1 + k0)))).setCell ⟨lb, 28, none⟩ (.int .i64 (1000))).setCell ⟨lb, 29, none⟩ (.slice none 0 0)) (w.heap.size + 2) (.slice (some ⟨lb, 0, none⟩) 16 16) ((List.replicate 16 ⟨hd0, none, 0⟩).set 2 ⟨⟨1, 1, ⟨(40), (100000), (100000), (255), (255), (-(1 + k0)), (1000)⟩, []⟩, none, 0⟩)) := own_put HO.out 2 ⟨hd0, none, 0⟩ ⟨⟨1, 1, ⟨(40), (100000), (100000), (255), (255), (-(1 + k0)), (1000)⟩, []⟩, none, 0⟩ rfl
    have HX5 : Hid (Fr w ((((((((((W4.setCell ⟨lb, 20, none⟩ (.int .i64 1)).setCell ⟨lb, 21, none⟩ (.int .i64 1)).setCell ⟨lb, 22, none⟩ (.int .i64 (40))).setCell ⟨lb, 23, none⟩ (.int .i64 (100000))).setCell ⟨lb, 24, none⟩ (.int .i64 (100000))).setCell ⟨lb, 25, none⟩ (.int .i64 (255))).setCell ⟨lb, 26, none⟩ (.int .i64 (255))).setCell ⟨lb, 27, none⟩ (.int .i64 (-(1 + k0)))).setCell ⟨lb, 28, none⟩ (.int .i64 (1000))).setCell ⟨lb, 29, none⟩ (.slice none 0 0)) _) := ((((((((((HX.out.far (p := ⟨lb, 20, none⟩) hw2 (.int .i64 1)).far (p := ⟨lb, 21, none⟩) hw2 (.int .i64 1)).far (p := ⟨lb, 22, none⟩) hw2 (.int .i64 (40))).far (p := ⟨lb, 23, none⟩) hw2 (.int .i64 (100000))).far (p := ⟨lb, 24, none⟩) hw2 (.int .i64 (100000))).far (p := ⟨lb, 25, none⟩) hw2 (.int .i64 (255))).far (p := ⟨lb, 26, none⟩) hw2 (.int .i64 (255))).far (p := ⟨lb, 27, none⟩) hw2 (.int .i64 (-(1 + k0)))).far (p := ⟨lb, 28, none⟩) hw2 (.int .i64 (1000))).far (p := ⟨lb, 29, none⟩) hw2 (.slice none 0 0))
    clear HO HX c0 c1 c2 c3 c4 c5 c6 c7 c8 c9 e6 HF2
    generalize ((((((((((W4.setCell ⟨lb, 20, none⟩ (.int .i64 1)).setCell ⟨lb, 21, none⟩ (.int .i64 1)).setCell ⟨lb, 22, none⟩ (.int .i64 (40))).setCell ⟨lb, 23, none⟩ (.int .i64 (100000))).setCell ⟨lb, 24, none⟩ (.int .i64 (100000))).setCell ⟨lb, 25, none⟩ (.int .i64 (255))).setCell ⟨lb, 26, none⟩ (.int .i64 (255))).setCell ⟨lb, 27, none⟩ (.int .i64 (-(1 + k0)))).setCell ⟨lb, 28, none⟩ (.int .i64 (1000))).setCell ⟨lb, 29, none⟩ (.slice none 0 0)) = W5 at *
    have e6 : ∀ j : Nat, W5.cell? ⟨w.heap.size, j, none⟩ = (#[.int .i64 (40), .int .i64 (100000), .int .i64 (100000), .int .i64 (255), .int .i64 (255), .int .i64 (-(1 + k0)), .int .i64 (1000)] : Array Value)[j]? := fun j => by
      have := HX5.out.cells (i := 0) (b := w.heap.size) rfl rfl j
      simpa only [List.setIfInBounds_toArray, List.set_cons_zero, List.set_cons_succ] using this
    have HR := Lib.hid (one_reads HO5.out)
    generalize hLL : (⟨(40), (100000), (100000), (255), (255), (-(1 + k0)), (1000)⟩ : Lim) = LL at *
    go_wp2_with fail
    refine (tput_val 1 _ _ _ HR.out (by simp) (one_short _) none (one_none hy.out)).mono ?_
    rintro e w6 ⟨rfl, hb⟩
    have HX6 := Lib.hid (HX5.out.below hb)
    have HR6 := Lib.hid (HR.out.below hb)
    have e6' : ∀ j : Nat, w6.cell? ⟨w.heap.size, j, none⟩ = (#[.int .i64 (40), .int .i64 (100000), .int .i64 (100000), .int .i64 (255), .int .i64 (255), .int .i64 (-(1 + k0)), .int .i64 (1000)] : Array Value)[j]? := fun j => (hb.cell (p := ⟨w.heap.size, j, none⟩) (HX5.out.lt (i := 0) (b := w.heap.size) (by simp) rfl)).trans (e6 j)
    clear hb e6 HX5 HR
    unfold putAns
    go_wp2_with fail
    refine (climit_val ⟨(40), (100000), (100000), (255), (255), (-(1 + k0)), (1000)⟩ false _ (by rw [hLL]; exact hy.out)).mono ?_
    rintro e w7 ⟨rfl, hb⟩
    have HX7 := Lib.hid (HX6.out.below hb)
    have HR7 := Lib.hid (HR6.out.below hb)
    clear hb e6' HX6 HR6
    go_wp2_with fail
    refine (tcheck_any 1000 _ _ _ HR7.out (by decide) (by simp) (one_short _)).mono ?_
    rw [one_bad 1000 hy.out]
    rintro e w8 ⟨rfl, hb⟩
    have HX8 := Lib.hid (HX7.out.below hb)
    clear hb HX7 HR7
    go_wp2_with fail
    refine (awake6_any _).mono ?_
    rintro e w9 ⟨rfl, hb⟩
    have HX9 := Lib.hid (HX8.out.below hb)
    clear hb HX8
    go_wp2_with fail
    go_ret
    exact ⟨rfl, HX9.out.bel⟩
  · have hsz : (w2.setCell ⟨w.heap.size, 0, none⟩ (.int .i64 (8 - (1 + k0)))).heap.size = w2.heap.size := by simp [World.setCell]
    have hw2 : w.heap.size + 2 ≤ w2.heap.size := HF2.out.2.1
    obtain ⟨C, hmk, hown⟩ := El.mk_row EH ⟨hd0, none, 0⟩ rfl 16 (by decide) (by decide) (w.heap.size + 2) (w2.setCell ⟨w.heap.size, 0, none⟩ (.int .i64 (8 - (1 + k0)))) (by rw [hsz]; exact hw2)
    rw [hsz] at hmk hown
    have hmk' : (Instr.makeSlice 46 (.int .i64 16) (.int .i64 16)).run Try.prog (w2.setCell ⟨w.heap.size, 0, none⟩ (.int .i64 (8 - (1 + k0)))) = .ok (.slice (some ⟨w2.heap.size, 0, none⟩) 16 16) ((w2.setCell ⟨w.heap.size, 0, none⟩ (.int .i64 (8 - (1 + k0)))).alloc (.cells C 61)) := hmk
    clear hmk
    go_upto_region 27 with fail
    clear hmk' e6 f6
    have HX := Lib.hid (((HF2.out.set (i := 0) (b := w.heap.size) rfl rfl 0 (.int .i64 (8 - (1 + k0))))).alloc (.cells C 61))
    have HO : Hid (EH.Own ((w2.setCell ⟨w.heap.size, 0, none⟩ (.int .i64 (8 - (1 + k0)))).alloc (.cells C 61)) (w.heap.size + 2) (.slice (some ⟨w2.heap.size, 0, none⟩) 16 16) (List.replicate 16 ⟨hd0, none, 0⟩)) := hown
    clear hown hsz
    generalize w2.heap.size = lb at *
    generalize (w2.setCell ⟨w.heap.size, 0, none⟩ (.int .i64 (8 - (1 + k0)))).alloc (.cells C 61) = W4 at *
    have e6 : ∀ j : Nat, W4.cell? ⟨w.heap.size, j, none⟩ = (#[.int .i64 (8 - (1 + k0)), .int .i64 (100000), .int .i64 (100000), .int .i64 (255), .int .i64 (255), .int .i64 (1099511627776), .int .i64 (1000)] : Array Value)[j]? := fun j => by
      have := HX.out.cells (i := 0) (b := w.heap.size) rfl rfl j
      simpa only [List.setIfInBounds_toArray, List.set_cons_zero, List.set_cons_succ] using this
    have eo : ∀ (i j : Nat) u, i < 16 → (EH.enc ⟨hd0, none, 0⟩)[j]? = some u → W4.cell? ⟨lb, i * 10 + j, none⟩ = some u ∧ W4.frozen? ⟨lb, i * 10 + j, none⟩ = false := fun i j u hi hu => HO.out.atAddr rfl i _ (by rw [List.getElem?_replicate, if_pos hi]) j u hu
    have c0 := eo 2 0 _ (by decide) rfl
    have c1 := eo 2 1 _ (by decide) rfl
    have c2 := eo 2 2 _ (by decide) rfl
    have c3 := eo 2 3 _ (by decide) rfl
    have c4 := eo 2 4 _ (by decide) rfl
    have c5 := eo 2 5 _ (by decide) rfl
    have c6 := eo 2 6 _ (by decide) rfl
    have c7 := eo 2 7 _ (by decide) rfl
    have c8 := eo 2 8 _ (by decide) rfl
    have c9 := eo 2 9 _ (by decide) rfl
    clear eo
    simp only [Nat.reduceMul, Nat.reduceAdd] at c0 c1 c2 c3 c4 c5 c6 c7 c8 c9
    go_upto_region 28 with fail
    have hy : Hid (limB ⟨(8 - (1 + k0)), (100000), (100000), (255), (255), (1099511627776), (1000)⟩ = false) := by
      unfold Hid
      rw [Bool.eq_false_iff]; intro h; unfold limB at h; simp only [Bool.and_eq_true, inB_iff] at h; omega
    have HO5 : Hid (EH.Own ((((((((((W4.setCell ⟨lb, 20, none⟩ (.int .i64 1)).setCell ⟨lb, 21, none⟩ (.int .i64 1)).setCell ⟨lb, 22, none⟩ (.int .i64 (8 - (1 + k0)))).setCell ⟨lb, 23, none⟩ (.int .i64 (100000))).setCell ⟨lb, 24, none⟩ (.int .i64 (100000))).setCell ⟨lb, 25, none⟩ (.int .i64 (255))).setCell ⟨lb, 26, none⟩ (.int .i64 (255))).setCell ⟨lb, 27, none⟩ (.int .i64 (1099511627776))).setCell ⟨lb, 28, none⟩ (.int .i64 (1000))).setCell ⟨lb, 29, none⟩ (.slice none 0 0)) (w.heap.size + 2) (.slice (some ⟨lb, 0, none⟩) 16 16) ((List.replicate 16 ⟨hd0, none, 0⟩).set 2 ⟨⟨1, 1, ⟨(8 - (1 + k0)), (100000), (100000), (255), (255), (1099511627776), (1000)⟩, []⟩, none, 0⟩)) := own_put HO.out 2 ⟨hd0, none, 0⟩ ⟨⟨1, 1, ⟨(8 - (1 + k0)), (100000), (100000), (255), (255), (1099511627776), (1000)⟩, []⟩, none, 0⟩ rfl
    have HX5 : Hid (Fr w ((((((((((W4.setCell ⟨lb, 20, none⟩ (.int .i64 1)).setCell ⟨lb, 21, none⟩ (.int .i64 1)).setCell ⟨lb, 22, none⟩ (.int .i64 (8 - (1 + k0)))).setCell ⟨lb, 23, none⟩ (.int .i64 (100000))).setCell ⟨lb, 24, none⟩ (.int .i64 (100000))).setCell ⟨lb, 25, none⟩ (.int .i64 (255))).setCell ⟨lb, 26, none⟩ (.int .i64 (255))).setCell ⟨lb, 27, none⟩ (.int .i64 (1099511627776))).setCell ⟨lb, 28, none⟩ (.int .i64 (1000))).setCell ⟨lb, 29, none⟩ (.slice none 0 0)) _) := ((((((((((HX.out.far (p := ⟨lb, 20, none⟩) hw2 (.int .i64 1)).far (p := ⟨lb, 21, none⟩) hw2 (.int .i64 1)).far (p := ⟨lb, 22, none⟩) hw2 (.int .i64 (8 - (1 + k0)))).far (p := ⟨lb, 23, none⟩) hw2 (.int .i64 (100000))).far (p := ⟨lb, 24, none⟩) hw2 (.int .i64 (100000))).far (p := ⟨lb, 25, none⟩) hw2 (.int .i64 (255))).far (p := ⟨lb, 26, none⟩) hw2 (.int .i64 (255))).far (p := ⟨lb, 27, none⟩) hw2 (.int .i64 (1099511627776))).far (p := ⟨lb, 28, none⟩) hw2 (.int .i64 (1000))).far (p := ⟨lb, 29, none⟩) hw2 (.slice none 0 0))
    clear HO HX c0 c1 c2 c3 c4 c5 c6 c7 c8 c9 e6 HF2
    generalize ((((((((((W4.setCell ⟨lb, 20, none⟩ (.int .i64 1)).setCell ⟨lb, 21, none⟩ (.int .i64 1)).setCell ⟨lb, 22, none⟩ (.int .i64 (8 - (1 + k0)))).setCell ⟨lb, 23, none⟩ (.int .i64 (100000))).setCell ⟨lb, 24, none⟩ (.int .i64 (100000))).setCell ⟨lb, 25, none⟩ (.int .i64 (255))).setCell ⟨lb, 26, none⟩ (.int .i64 (255))).setCell ⟨lb, 27, none⟩ (.int .i64 (1099511627776))).setCell ⟨lb, 28, none⟩ (.int .i64 (1000))).setCell ⟨lb, 29, none⟩ (.slice none 0 0)) = W5 at *
    have e6 : ∀ j : Nat, W5.cell? ⟨w.heap.size, j, none⟩ = (#[.int .i64 (8 - (1 + k0)), .int .i64 (100000), .int .i64 (100000), .int .i64 (255), .int .i64 (255), .int .i64 (1099511627776), .int .i64 (1000)] : Array Value)[j]? := fun j => by
      have := HX5.out.cells (i := 0) (b := w.heap.size) rfl rfl j
      simpa only [List.setIfInBounds_toArray, List.set_cons_zero, List.set_cons_succ] using this
    have HR := Lib.hid (one_reads HO5.out)
    generalize hLL : (⟨(8 - (1 + k0)), (100000), (100000), (255), (255), (1099511627776), (1000)⟩ : Lim) = LL at *
    go_wp2_with fail
    refine (tput_val 1 _ _ _ HR.out (by simp) (one_short _) none (one_none hy.out)).mono ?_
    rintro e w6 ⟨rfl, hb⟩
    have HX6 := Lib.hid (HX5.out.below hb)
    have HR6 := Lib.hid (HR.out.below hb)
    have e6' : ∀ j : Nat, w6.cell? ⟨w.heap.size, j, none⟩ = (#[.int .i64 (8 - (1 + k0)), .int .i64 (100000), .int .i64 (100000), .int .i64 (255), .int .i64 (255), .int .i64 (1099511627776), .int .i64 (1000)] : Array Value)[j]? := fun j => (hb.cell (p := ⟨w.heap.size, j, none⟩) (HX5.out.lt (i := 0) (b := w.heap.size) (by simp) rfl)).trans (e6 j)
    clear hb e6 HX5 HR
    unfold putAns
    go_wp2_with fail
    refine (climit_val ⟨(8 - (1 + k0)), (100000), (100000), (255), (255), (1099511627776), (1000)⟩ false _ (by rw [hLL]; exact hy.out)).mono ?_
    rintro e w7 ⟨rfl, hb⟩
    have HX7 := Lib.hid (HX6.out.below hb)
    have HR7 := Lib.hid (HR6.out.below hb)
    clear hb e6' HX6 HR6
    go_wp2_with fail
    refine (tcheck_any 1000 _ _ _ HR7.out (by decide) (by simp) (one_short _)).mono ?_
    rw [one_bad 1000 hy.out]
    rintro e w8 ⟨rfl, hb⟩
    have HX8 := Lib.hid (HX7.out.below hb)
    clear hb HX7 HR7
    go_wp2_with fail
    refine (awake6_any _).mono ?_
    rintro e w9 ⟨rfl, hb⟩
    have HX9 := Lib.hid (HX8.out.below hb)
    clear hb HX8
    go_wp2_with fail
    go_ret
    exact ⟨rfl, HX9.out.bel⟩
  · have hsz : (w2.setCell ⟨w.heap.size, 2, none⟩ (.int .i64 (-(1 + k0)))).heap.size = w2.heap.size := by simp [World.setCell]
    have hw2 : w.heap.size + 2 ≤ w2.heap.size := HF2.out.2.1
    obtain ⟨C, hmk, hown⟩ := El.mk_row EH ⟨hd0, none, 0⟩ rfl 16 (by decide) (by decide) (w.heap.size + 2) (w2.setCell ⟨w.heap.size, 2, none⟩ (.int .i64 (-(1 + k0)))) (by rw [hsz]; exact hw2)
    rw [hsz] at hmk hown
    have hmk' : (Instr.makeSlice 46 (.int .i64 16) (.int .i64 16)).run Try.prog (w2.setCell ⟨w.heap.size, 2, none⟩ (.int .i64 (-(1 + k0)))) = .ok (.slice (some ⟨w2.heap.size, 0, none⟩) 16 16) ((w2.setCell ⟨w.heap.size, 2, none⟩ (.int .i64 (-(1 + k0)))).alloc (.cells C 61)) := hmk
    clear hmk
    go_upto_region 27 with fail
    clear hmk' e6 f6
    have HX := Lib.hid (((HF2.out.set (i := 0) (b := w.heap.size) rfl rfl 2 (.int .i64 (-(1 + k0))))).alloc (.cells C 61))
    have HO : Hid (EH.Own ((w2.setCell ⟨w.heap.size, 2, none⟩ (.int .i64 (-(1 + k0)))).alloc (.cells C 61)) (w.heap.size + 2) (.slice (some ⟨w2.heap.size, 0, none⟩) 16 16) (List.replicate 16 ⟨hd0, none, 0⟩)) := hown
    clear hown hsz
    generalize w2.heap.size = lb at *
    generalize (w2.setCell ⟨w.heap.size, 2, none⟩ (.int .i64 (-(1 + k0)))).alloc (.cells C 61) = W4 at *
    have e6 : ∀ j : Nat, W4.cell? ⟨w.heap.size, j, none⟩ = (#[.int .i64 (40), .int .i64 (100000), .int .i64 (-(1 + k0)), .int .i64 (255), .int .i64 (255), .int .i64 (1099511627776), .int .i64 (1000)] : Array Value)[j]? := fun j => by
      have := HX.out.cells (i := 0) (b := w.heap.size) rfl rfl j
      simpa only [List.setIfInBounds_toArray, List.set_cons_zero, List.set_cons_succ] using this
    have eo : ∀ (i j : Nat) u, i < 16 → (EH.enc ⟨hd0, none, 0⟩)[j]? = some u → W4.cell? ⟨lb, i * 10 + j, none⟩ = some u ∧ W4.frozen? ⟨lb, i * 10 + j, none⟩ = false := fun i j u hi hu => HO.out.atAddr rfl i _ (by rw [List.getElem?_replicate, if_pos hi]) j u hu
    have c0 := eo 2 0 _ (by decide) rfl
    have c1 := eo 2 1 _ (by decide) rfl
    have c2 := eo 2 2 _ (by decide) rfl
    have c3 := eo 2 3 _ (by decide) rfl
    have c4 := eo 2 4 _ (by decide) rfl
    have c5 := eo 2 5 _ (by decide) rfl
    have c6 := eo 2 6 _ (by decide) rfl
    have c7 := eo 2 7 _ (by decide) rfl
    have c8 := eo 2 8 _ (by decide) rfl
    have c9 := eo 2 9 _ (by decide) rfl
    clear eo
    simp only [Nat.reduceMul, Nat.reduceAdd] at c0 c1 c2 c3 c4 c5 c6 c7 c8 c9
    go_upto_region 28 with fail
    have hy : Hid (limB ⟨(40), (100000), (-(1 + k0)), (255), (255), (1099511627776), (1000)⟩ = false) := by
      unfold Hid
      rw [Bool.eq_false_iff]; intro h; unfold limB at h; simp only [Bool.and_eq_true, inB_iff] at h; omega
    have HO5 : Hid (EH.Own ((((((((((W4.setCell ⟨lb, 20, none⟩ (.int .i64 1)).setCell ⟨lb, 21, none⟩ (.int .i64 1)).setCell ⟨lb, 22, none⟩ (.int .i64 (40))).setCell ⟨lb, 23, none⟩ (.int .i64 (100000))).setCell ⟨lb, 24, none⟩ (.int .i64 (-(1 + k0)))).setCell ⟨lb, 25, none⟩ (.int .i64 (255))).setCell ⟨lb, 26, none⟩ (.int .i64 (255))).setCell ⟨lb, 27, none⟩ (.int .i64 (1099511627776))).setCell ⟨lb, 28, none⟩ (.int .i64 (1000))).setCell ⟨lb, 29, none⟩ (.slice none 0 0)) (w.heap.size + 2) (.slice (some ⟨lb, 0, none⟩) 16 16) ((List.replicate 16 ⟨hd0, none, 0⟩).set 2 ⟨⟨1, 1, ⟨(40), (100000), (-(1 + k0)), (255), (255), (1099511627776), (1000)⟩, []⟩, none, 0⟩)) := own_put HO.out 2 ⟨hd0, none, 0⟩ ⟨⟨1, 1, ⟨(40), (100000), (-(1 + k0)), (255), (255), (1099511627776), (1000)⟩, []⟩, none, 0⟩ rfl
    have HX5 : Hid (Fr w ((((((((((W4.setCell ⟨lb, 20, none⟩ (.int .i64 1)).setCell ⟨lb, 21, none⟩ (.int .i64 1)).setCell ⟨lb, 22, none⟩ (.int .i64 (40))).setCell ⟨lb, 23, none⟩ (.int .i64 (100000))).setCell ⟨lb, 24, none⟩ (.int .i64 (-(1 + k0)))).setCell ⟨lb, 25, none⟩ (.int .i64 (255))).setCell ⟨lb, 26, none⟩ (.int .i64 (255))).setCell ⟨lb, 27, none⟩ (.int .i64 (1099511627776))).setCell ⟨lb, 28, none⟩ (.int .i64 (1000))).setCell ⟨lb, 29, none⟩ (.slice none 0 0)) _) := ((((((((((HX.out.far (p := ⟨lb, 20, none⟩) hw2 (.int .i64 1)).far (p := ⟨lb, 21, none⟩) hw2 (.int .i64 1)).far (p := ⟨lb, 22, none⟩) hw2 (.int .i64 (40))).far (p := ⟨lb, 23, none⟩) hw2 (.int .i64 (100000))).far (p := ⟨lb, 24, none⟩) hw2 (.int .i64 (-(1 + k0)))).far (p := ⟨lb, 25, none⟩) hw2 (.int .i64 (255))).far (p := ⟨lb, 26, none⟩) hw2 (.int .i64 (255))).far (p := ⟨lb, 27, none⟩) hw2 (.int .i64 (1099511627776))).far (p := ⟨lb, 28, none⟩) hw2 (.int .i64 (1000))).far (p := ⟨lb, 29, none⟩) hw2 (.slice none 0 0))
    clear HO HX c0 c1 c2 c3 c4 c5 c6 c7 c8 c9 e6 HF2
    generalize ((((((((((W4.setCell ⟨lb, 20, none⟩ (.int .i64 1)).setCell ⟨lb, 21, none⟩ (.int .i64 1)).setCell ⟨lb, 22, none⟩ (.int .i64 (40))).setCell ⟨lb, 23, none⟩ (.int .i64 (100000))).setCell ⟨lb, 24, none⟩ (.int .i64 (-(1 + k0)))).setCell ⟨lb, 25, none⟩ (.int .i64 (255))).setCell ⟨lb, 26, none⟩ (.int .i64 (255))).setCell ⟨lb, 27, none⟩ (.int .i64 (1099511627776))).setCell ⟨lb, 28, none⟩ (.int .i64 (1000))).setCell ⟨lb, 29, none⟩ (.slice none 0 0)) = W5 at *
    have e6 : ∀ j : Nat, W5.cell? ⟨w.heap.size, j, none⟩ = (#[.int .i64 (40), .int .i64 (100000), .int .i64 (-(1 + k0)), .int .i64 (255), .int .i64 (255), .int .i64 (1099511627776), .int .i64 (1000)] : Array Value)[j]? := fun j => by
      have := HX5.out.cells (i := 0) (b := w.heap.size) rfl rfl j
      simpa only [List.setIfInBounds_toArray, List.set_cons_zero, List.set_cons_succ] using this
    have HR := Lib.hid (one_reads HO5.out)
    generalize hLL : (⟨(40), (100000), (-(1 + k0)), (255), (255), (1099511627776), (1000)⟩ : Lim) = LL at *
    go_wp2_with fail
    refine (tput_val 1 _ _ _ HR.out (by simp) (one_short _) none (one_none hy.out)).mono ?_
    rintro e w6 ⟨rfl, hb⟩
    have HX6 := Lib.hid (HX5.out.below hb)
    have HR6 := Lib.hid (HR.out.below hb)
    have e6' : ∀ j : Nat, w6.cell? ⟨w.heap.size, j, none⟩ = (#[.int .i64 (40), .int .i64 (100000), .int .i64 (-(1 + k0)), .int .i64 (255), .int .i64 (255), .int .i64 (1099511627776), .int .i64 (1000)] : Array Value)[j]? := fun j => (hb.cell (p := ⟨w.heap.size, j, none⟩) (HX5.out.lt (i := 0) (b := w.heap.size) (by simp) rfl)).trans (e6 j)
    clear hb e6 HX5 HR
    unfold putAns
    go_wp2_with fail
    refine (climit_val ⟨(40), (100000), (-(1 + k0)), (255), (255), (1099511627776), (1000)⟩ false _ (by rw [hLL]; exact hy.out)).mono ?_
    rintro e w7 ⟨rfl, hb⟩
    have HX7 := Lib.hid (HX6.out.below hb)
    have HR7 := Lib.hid (HR6.out.below hb)
    clear hb e6' HX6 HR6
    go_wp2_with fail
    refine (tcheck_any 1000 _ _ _ HR7.out (by decide) (by simp) (one_short _)).mono ?_
    rw [one_bad 1000 hy.out]
    rintro e w8 ⟨rfl, hb⟩
    have HX8 := Lib.hid (HX7.out.below hb)
    clear hb HX7 HR7
    go_wp2_with fail
    refine (awake6_any _).mono ?_
    rintro e w9 ⟨rfl, hb⟩
    have HX9 := Lib.hid (HX8.out.below hb)
    clear hb HX8
    go_wp2_with fail
    go_ret
    exact ⟨rfl, HX9.out.bel⟩

end
end Go.Proofs.Ytjoplgdcpihmaaa
