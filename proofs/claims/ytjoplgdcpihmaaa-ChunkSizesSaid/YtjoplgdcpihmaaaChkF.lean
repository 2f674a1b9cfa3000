/- The law ChunkSizes: its walk. -/
import Derived.Test.YtjoplgdcpihmaaaChkC
namespace Go.Proofs.Ytjoplgdcpihmaaa
open Go.RowKit
def szE (k : Nat) : List Ent := (List.range k).map fun (i : Nat) => ⟨3, 1 + (i : Int), 0⟩
def szB (k : Nat) : List (List UInt8) := (List.range k).map fun (i : Nat) => filled (i : Int)
theorem szE_len (k : Nat) : (szE k).length = k := by simp [szE]
theorem szB_len (k : Nat) : (szB k).length = k := by simp [szB]
theorem szE_succ (k : Nat) : szE (k + 1) = szE k ++ [⟨3, 1 + (k : Int), 0⟩] := by unfold szE; rw [List.range_succ, List.map_append]; rfl
theorem szB_succ (k : Nat) : szB (k + 1) = szB k ++ [filled (k : Int)] := by unfold szB; rw [List.range_succ, List.map_append]; rfl
theorem szB_blocks (k : Nat) : ∀ b ∈ szB k, b.length = 256 := fun b hb => by
  unfold szB at hb
  obtain ⟨y, -, rfl⟩ := List.mem_map.1 hb
  exact filled_len _
theorem sz_ok (k : Nat) (h : k ≤ 24) : checkB hd1 (szE k) = true := by
  unfold checkB
  simp only [Bool.and_eq_true, decide_eq_true_eq, List.all_eq_true]
  refine ⟨⟨by decide, by rw [szE_len]; omega⟩, fun x hx => ?_⟩
  unfold szE at hx
  obtain ⟨y, hy, rfl⟩ := List.mem_map.1 hx
  have := List.mem_range.1 hy
  unfold entB mostOf
  simp only [Bool.and_eq_true, inB_iff]
  refine ⟨by omega, by omega, by simp, by simp⟩
/-- As many blocks as entries: a chunk; else none. -/
theorem sz_put (k n : Nat) (hk : k ≤ 24) : (k = n → ∃ s, chunkPut hd1 (szE k) (szB n) = some s ∧ s.length = 256 * (1 + k)) ∧ (k ≠ n → chunkPut hd1 (szE k) (szB n) = none) := by
  refine ⟨?_, fun hne => ?_⟩
  · rintro rfl
    obtain ⟨s, hs⟩ := chunkPut_is (sz_ok k hk) (by rw [szB_len, szE_len]) (szB_blocks k)
    refine ⟨s, hs, ?_⟩
    have := (chunkPut_parts hs).choose_spec.2.2.2.2.2.2
    rw [szB_len] at this; exact this
  · unfold chunkPut
    rw [if_pos (allB_iff.2 (szB_blocks n))]
    unfold headPut
    rw [if_neg]
    · rfl
    · rintro ⟨-, h⟩
      rw [flat_len (szB_blocks n), szB_len, szE_len] at h
      omega
theorem short_none {h : Hd} {l : List Ent} {B : List (List UInt8)} (i : Nat) (x : List UInt8) (hi : B[i]? = some x) (hx : x.length ≠ 256) : chunkPut h l B = none := by
  unfold chunkPut
  rw [if_neg]
  intro ha
  exact hx (allB_iff.1 ha x (List.mem_of_getElem? hi))
theorem filled_zero : nth (filled 0) 0 = 0 := by
  unfold filled fillK nth
  rw [List.getD_eq_getElem?_getD, List.getElem?_map, List.getElem?_range (by decide)]
  rfl
theorem body_none {k : Nat} {s : List UInt8} (hk : 0 < k) (hs : chunkPut hd1 (szE k) (szB k) = some s) : chunkGet (s.drop 256) = none := by
  obtain ⟨p, hp, rfl, hpl, hb, hbl, -, -⟩ := chunkPut_parts hs
  rw [List.drop_left' hpl]
  apply chunkGet_head
  apply getHead_mark
  obtain ⟨k, rfl⟩ : ∃ m, k = m + 1 := ⟨k - 1, by omega⟩
  have e : szB (k + 1) = filled 0 :: (List.range k).map (fun i => filled ((i + 1 : Nat) : Int)) := by
    unfold szB
    rw [List.range_succ_eq_map, List.map_cons, List.map_map]; rfl
  rw [e, List.flatten_cons, nth_append_left _ _ _ (by rw [filled_len]; decide), filled_zero]
  decide
section
attribute [local go_sem] bs_size bs_extract bs_toList
attribute [local go_sem ↓] Go.wp_at_zero Go.wp_at_succ
set_option maxRecDepth 100000 in
set_option maxHeartbeats 8000000 in
theorem chunkSizes_walk (n m how : Int) (w : World) (a0 : -9223372036854775808 ≤ n) (a1 : n ≤ 9223372036854775807) (b0 : -9223372036854775808 ≤ m) (b1 : m ≤ 9223372036854775807) (c0 : -9223372036854775808 ≤ how) (c1 : how ≤ 9223372036854775807) :
    Calls Try.prog 14 #[.int .i64 n, .int .i64 m, .int .i64 how] w fun e w' => e = .returned (.bool true) ∧ Below w.heap.size w w' := by
  have hpn := placeOf_bd n 25 (by decide)
  have hpm := placeOf_bd m 25 (by decide)
  have PN := Lib.hid (place_any n 25)
  have PM := Lib.hid (place_any m 25)
  generalize placeOf n 25 = kn at *
  generalize placeOf m 25 = km at *
  obtain ⟨kE, rfl⟩ := Int.eq_ofNat_of_zero_le hpn.1
  obtain ⟨kB, rfl⟩ := Int.eq_ofNat_of_zero_le hpm.1
  have HF0 := Lib.hid (Fr.one w #[.int .i64 1, .int .i64 1, .int .i64 1, .int .i64 1, .int .i64 0, .int .i64 0, .int .i64 0, .int .i64 0, .slice none 0 0] 24)
  go_enter Try.func14, Try.ntmps14
  go_wp2_with fail
  refine (PN.out _ a0 a1 (by decide) (by decide)).mono ?_
  rintro e w1 ⟨rfl, rfl⟩
  go_wp2_with fail
  refine (PM.out _ b0 b1 (by decide) (by decide)).mono ?_
  rintro e w1 ⟨rfl, rfl⟩
  clear PN PM a0 a1 b0 b1
  go_wp2_with fail
  generalize w.alloc (.cells #[.int .i64 1, .int .i64 1, .int .i64 1, .int .i64 1, .int .i64 0, .int .i64 0, .int .i64 0, .int .i64 0, .slice none 0 0] 24) = W1 at *
  go_loopw [10] (fun ii wr => ∃ (i : Nat) (A2 : Option Addr) (c2 : Nat), i ≤ kE ∧ ii = .int .i64 i ∧ Fr w wr [(#[.int .i64 1, .int .i64 1, .int .i64 1, .int .i64 1, .int .i64 0, .int .i64 0, .int .i64 0, .int .i64 0, .slice A2 (szE i).length c2], 24)] ∧ EE.Own wr (w.heap.size + 1) (.slice A2 (szE i).length c2) (szE i)) (fun ii _ => 100 - (intOf ii).toNat)
  case atStart => exact ⟨0, none, 0, by omega, rfl, HF0.out, El.Own.nil _ _⟩
  clear HF0
  case round =>
    obtain ⟨i, A2, c2, hi, rfl, hf, hE⟩ := hrel
    have HF := Lib.hid hf
    have HE := Lib.hid hE
    clear hf hE
    have HEL : Hid ((szE i).length ≤ 24) := by unfold Hid; rw [szE_len]; omega
    by_cases hlt : i < kE
    · have HSZ : Hid (w.heap.size + 1 ≤ wr.heap.size) := HF.out.2.1
      have HEN := Lib.hid (szE_succ i)
      have e8 : wr.cell? ⟨w.heap.size, 8, none⟩ = some (.slice A2 (szE i).length c2) := HF.out.cells (i := 0) rfl rfl 8
      go_wp2_with (at_builtin; refine EE.app (w0 := wr) rfl _ _ rfl (w.heap.size + 1) (.slice A2 (szE i).length c2) (szE i) ⟨3, 1 + (i : Int), 0⟩ rfl HE.out rfl _ rfl ?cb ?cm HSZ.out (Below.refl _ _ |>.mono HSZ.out) ?_; (case cb => have := HEL.out; simp only [EE]; omega); (case cm => have := HEL.out; omega); intro v' w1 ho _ hg hat; obtain ⟨A', c', rfl, -⟩ := ho.reads; rw [← HEN.out] at ho; have HE1 := Lib.hid ho; have HF1 := Lib.hid (HF.out.grown hg (fun r e => (HE.out.lt r e).1)); have e8 : w1.cell? ⟨w.heap.size, 8, none⟩ = some (.slice A2 (szE i).length c2) := HF1.out.cells (i := 0) rfl rfl 8; have f8 : w1.frozen? ⟨w.heap.size, 8, none⟩ = false := HF1.out.frees (i := 0) rfl rfl 8; clear ho hg hat)
      have HLE : Hid ((szE i).length + 1 = (szE (i + 1)).length) := by unfold Hid; rw [szE_len, szE_len]
      rw [HLE.out]
      have HF3 : Hid (Fr w (w1.setCell ⟨w.heap.size, 8, none⟩ (.slice A' (szE (i + 1)).length c')) [(#[.int .i64 1, .int .i64 1, .int .i64 1, .int .i64 1, .int .i64 0, .int .i64 0, .int .i64 0, .int .i64 0, .slice A' (szE (i + 1)).length c'], 24)]) := (HF1.out.set (i := 0) (b := w.heap.size) rfl rfl 8 (.slice A' (szE (i + 1)).length c')).at' (by simp only [List.set_cons_zero, List.set_cons_succ, List.setIfInBounds_toArray])
      have HE3 : Hid (EE.Own (w1.setCell ⟨w.heap.size, 8, none⟩ (.slice A' (szE (i + 1)).length c')) (w.heap.size + 1) (.slice A' (szE (i + 1)).length c') (szE (i + 1))) := HE1.out.set (p := ⟨w.heap.size, 8, none⟩) (Nat.lt_succ_self _) _
      clear e8 f8
      go_roundw
      case rel => exact ⟨i + 1, A', c', by omega, by go_num, HF3.out, HE3.out⟩
      case measure => simp only [intOf]; omega
    · obtain rfl : kE = i := by omega
      have HBB := Lib.hid (Below.refl wr.heap.size wr)
      go_wp2_with fail
      have HKE : Hid ((szE kE).length = kE) := szE_len kE
      generalize wr = WE at *
      go_loopw [11, 12] (fun bl jj wq => ∃ (j : Nat) (A : Option Addr) (c : Nat), j ≤ kB ∧ jj = .int .i64 j ∧ bl = .slice A (szB j).length c ∧ ES.Own wq WE.heap.size (.slice A (szB j).length c) (szB j) ∧ Below WE.heap.size WE wq) (fun _ jj _ => 100 - (intOf jj).toNat)
      case atStart => exact ⟨0, none, 0, by omega, rfl, rfl, El.Own.nil _ _, HBB.out⟩
      clear HBB
      case round =>
        obtain ⟨j, A, c, hj, rfl, rfl, hB, hb⟩ := hrel
        have HBs := Lib.hid hB
        have HB := Lib.hid hb
        clear hB hb
        have HBL : Hid ((szB j).length ≤ 24) := by unfold Hid; rw [szB_len]; omega
        by_cases hlt2 : j < kB
        · have HBN := Lib.hid (szB_succ j)
          go_wp2_with fail
          refine (filledc_any _ _ (by omega) (by omega)).mono ?_
          rintro e w4 ⟨rfl, hb⟩
          have HB4 := Lib.hid (HBs.out.below hb)
          have HC4 := Lib.hid (HB.out.trans (hb.mono HB.out.size))
          have HSZ : Hid (WE.heap.size ≤ w4.heap.size) := HC4.out.size
          clear hb HBs HB
          go_wp2_with (at_builtin; refine ES.app (w0 := w4) rfl _ _ rfl WE.heap.size (.slice A (szB j).length c) (szB j) (filled (j : Int)) rfl HB4.out rfl _ rfl ?cb ?cm HSZ.out (Below.refl _ _ |>.mono HSZ.out) ?_; (case cb => have := HBL.out; simp only [ES]; omega); (case cm => have := HBL.out; omega); intro v' w5 ho _ hg hat; obtain ⟨B', b', rfl, -⟩ := ho.reads; rw [← HBN.out] at ho; have HB5 := Lib.hid ho; have HC5 := Lib.hid (HC4.out.grown hg HSZ.out (fun r e => (HB4.out.lt r e).1)); clear ho hg hat)
          have HLB : Hid ((szB j).length + 1 = (szB (j + 1)).length) := by unfold Hid; rw [szB_len, szB_len]
          go_roundw
          case rel => exact ⟨j + 1, B', b', by omega, by go_num, by rw [HLB.out], HB5.out, HC5.out⟩
          case measure => simp only [intOf]; omega
        · obtain rfl : j = kB := by omega
          have HFx := Lib.hid (HF.out.below HB.out)
          have HEx := Lib.hid (HE.out.below HB.out)
          have HLT := Lib.hid HE.out.lt
          have HSx := Lib.hid HBs.out.reads
          have e8 : ∀ i : Nat, wr.cell? ⟨w.heap.size, i, none⟩ = (#[.int .i64 1, .int .i64 1, .int .i64 1, .int .i64 1, .int .i64 0, .int .i64 0, .int .i64 0, .int .i64 0, .slice A2 (szE kE).length c2] : Array Value)[i]? := HFx.out.cells (i := 0) rfl rfl
          have HPUT := Lib.hid (sz_put kE j (by omega))
          by_cases hkk : kE = j
          · subst hkk
            obtain ⟨s, hs, hsl⟩ := HPUT.out.1 rfl
            have HP := Lib.hid hs
            have HBD := Lib.hid (fun h : 0 < kE => body_none h hs)
            have hqq : ((kE : Int) == (kE : Int)) = true := by rw [beq_iff_eq]
            have hll : ((s.length : Int) != 256 * (1 + (kE : Int))) = false := by rw [bne_eq_false_iff_eq]; omega
            have HSL := Lib.hid hsl
            clear hs hsl HPUT
            go_wp2_with fail
            refine (make_val hd1 _ (szE kE) _ (szB kE) (some s) _ HEx.out.reads HSx.out (by have := HEL.out; omega) (by have := HBL.out; omega) HP.out).mono ?_
            rintro e w5 ⟨rfl, hb⟩
            have HF5 := Lib.hid (HFx.out.below hb)
            have HE5 := Lib.hid (HEx.out.below hb)
            have HB5 := Lib.hid (HBs.out.below hb)
            have HW5 := Lib.hid (HFx.out.bel.trans (hb.mono HFx.out.bel.size))
            have HZ5 : Hid (w.heap.size < WE.heap.size) := by have := HF.out.2.1; simp only [List.length_cons, List.length_nil] at this; exact this
            clear hb e8 HFx HEx HSx HBs HB HF HE
            simp only [Option.getD_some, Option.isSome_some]
            by_cases hk0 : kE = 0
            · have hz0 : ((kE : Int) == 0) = true := by rw [beq_iff_eq]; omega
              clear hk0
              go_wp2_with fail
              refine (awake13_any _).mono ?_
              rintro e w2 ⟨rfl, hb⟩
              have HB2 := Lib.hid (HW5.out.trans (hb.mono HW5.out.size))
              clear hb
              go_wp2_with fail
              go_ret
              exact ⟨rfl, HB2.out⟩
            · have hz0 : ((kE : Int) == 0) = false := by rw [beq_eq_false_iff_ne]; omega
              have hpl := placeOf_bd how (kE : Int) (by omega)
              have PL := Lib.hid (place_any how (kE : Int))
              generalize placeOf how (kE : Int) = kl at *
              obtain ⟨kp, rfl⟩ := Int.eq_ofNat_of_zero_le hpl.1
              go_upto_region 17 with fail
              clear hqq hll hz0
              have HKB : Hid ((szB kE).length = kE) := szB_len kE
              have h0e : (szB kE)[0]? = some (filled 0) := by
                unfold szB
                rw [List.getElem?_map, List.getElem?_range (by omega)]; rfl
              obtain ⟨xk, hxk⟩ : ∃ x, (szB kE)[kp]? = some x := ⟨_, List.getElem?_eq_getElem (by rw [szB_len]; omega)⟩
              obtain ⟨g, rfl⟩ : ∃ g, A = some ⟨g, 0, none⟩ := by
                rcases HB5.out.2 with ⟨h1, h2⟩ | ⟨g, cap, cur, h1, -⟩
                · rw [szB_len] at h2; omega
                · injection h1 with h1 h2 h3; exact ⟨g, h1⟩
              have ce := HB5.out.atAddr rfl 0 (filled 0) h0e 0 _ rfl
              have ck := HB5.out.atAddr rfl kp xk hxk 0 _ rfl
              have HST := Lib.hid (fun u => HB5.out.store kp 0 xk ((filled 0).take 255) u hxk (by decide))
              have HG := HB5.out.lt g rfl
              simp only [ES, Nat.mul_one, Nat.add_zero] at ce ck
              rw [HKB.out]
              have i0 : (0 : Int) < (kE : Int) := by omega
              have i1 : 0 < kE := by omega
              have i2 : (0 : Int) ≤ (kp : Int) := by omega
              have i3 : (kp : Int) < (kE : Int) := by omega
              have i4 : kp < kE := by omega
              have hf0 : (filled 0).length = 256 := filled_len _
              obtain ⟨ce1, ce2⟩ := ce
              obtain ⟨ck1, ck2⟩ := ck
              have HSN : Hid (ES.Own (w5.setCell ⟨g, kp, none⟩ (.string (bs ((filled 0).take 255)))).drew WE.heap.size (.slice (some ⟨g, 0, none⟩) kE c) ((szB kE).set kp ((filled 0).take 255))) := by
                have h := HST.out (.string (bs ((filled 0).take 255))) rfl
                rw [List.length_set, HKB.out] at h
                have e : kp * ES.size + 0 = kp := by simp only [ES, Nat.mul_one, Nat.add_zero]
                rw [e] at h
                exact h.drew
              have HEN : Hid (EE.Own (w5.setCell ⟨g, kp, none⟩ (.string (bs ((filled 0).take 255)))).drew (w.heap.size + 1) (.slice A2 (szE kE).length c2) (szE kE)) := (HE5.out.kept (grown_cell w5 ⟨g, kp, none⟩ _) (by
                by_cases hh : (Value.slice A2 (szE kE).length c2).ownBlock = none
                · exact .inl hh
                · refine .inr fun e => ?_
                  have := (HLT.out g e).2
                  omega)).drew
              have HFN : Hid (Fr w (w5.setCell ⟨g, kp, none⟩ (.string (bs ((filled 0).take 255)))).drew [(#[.int .i64 1, .int .i64 1, .int .i64 1, .int .i64 1, .int .i64 0, .int .i64 0, .int .i64 0, .int .i64 0, .slice A2 (szE kE).length c2], 24)]) := (HF5.out.grown (grown_cell w5 ⟨g, kp, none⟩ _) (fun r e => by
                injection e with e
                have := HZ5.out
                simp only [List.length_cons, List.length_nil]
                simp only at e
                omega)).drew
              have HPN : Hid (chunkPut hd1 (szE kE) ((szB kE).set kp ((filled 0).take 255)) = none) := short_none kp _ (by rw [List.getElem?_set_self (by rw [szB_len]; omega)]) (by rw [List.length_take, hf0]; decide)
              have HLS : Hid (((szB kE).set kp ((filled 0).take 255)).length = kE) := by unfold Hid; rw [List.length_set, szB_len]
              clear HST HG
              go_region_law
                ((first | (go_simp; go_at_call 38; refine (PL.out _ c0 c1 (by omega) (by omega)).mono ?_; rintro e w' ⟨rfl, rfl⟩) | fail))
              all_goals
                clear ce1 ce2 ck1 ck2 hf0 HB5 HE5 HF5 PL h0e hxk
                generalize (w5.setCell ⟨g, kp, none⟩ (.string (bs ((filled 0).take 255)))).drew = W7 at *
                generalize (szB kE).set kp ((filled 0).take 255) = B7 at *
                have e8 : ∀ i : Nat, W7.cell? ⟨w.heap.size, i, none⟩ = (#[.int .i64 1, .int .i64 1, .int .i64 1, .int .i64 1, .int .i64 0, .int .i64 0, .int .i64 0, .int .i64 0, .slice A2 (szE kE).length c2] : Array Value)[i]? := HFN.out.cells (i := 0) rfl rfl
                go_wp2_with fail
                refine (make_val hd1 _ (szE kE) _ B7 none _ HEN.out.reads HSN.out.reads (by have := HEL.out; omega) (by rw [HLS.out]; omega) HPN.out).mono ?_
                rintro e w8 ⟨rfl, hb⟩
                have HB8 := Lib.hid (HFN.out.bel.trans (hb.mono HFN.out.bel.size))
                clear hb e8 HFN HEN HSN
                simp only [Option.getD_none, Option.isSome_none]
                have hs2 : 256 ≤ s.length := by have := HSL.out; omega
                have hs3 : (256 : Int) ≤ (s.length : Int) := by omega
                go_wp2_with fail
                have htk : List.take (s.length - 256) (List.drop 256 s) = List.drop 256 s := List.take_of_length_le (by rw [List.length_drop]; exact Nat.le_refl _)
                rw [htk]
                clear htk hs2 hs3
                refine (parse_none (s.drop 256) _ (by rw [List.length_drop]; have := HSL.out; omega) (HBD.out (by omega))).mono ?_
                rintro e w11 ⟨rfl, hb⟩
                have HB11 := Lib.hid ((HB8.out.trans (hb.mono HB8.out.size)).alloc (HB8.out.trans (hb.mono HB8.out.size)).size (.cells #[.int .i64 0, .int .i64 0, .int .i64 0, .int .i64 0, .int .i64 0, .int .i64 0, .int .i64 0, .int .i64 0, .slice none 0 0] 24))
                clear hb HB8
                go_wp2_with fail
                generalize w11.alloc (.cells #[.int .i64 0, .int .i64 0, .int .i64 0, .int .i64 0, .int .i64 0, .int .i64 0, .int .i64 0, .int .i64 0, .slice none 0 0] 24) = W11 at *
                refine (awake13_any _).mono ?_
                rintro e w14 ⟨rfl, hb⟩
                have HB14 := Lib.hid (HB11.out.trans (hb.mono HB11.out.size))
                clear hb
                go_wp2_with fail
                go_ret
                exact ⟨rfl, HB14.out⟩
          · have HP := Lib.hid (HPUT.out.2 hkk)
            have hqq : ((kE : Int) == (j : Int)) = false := by rw [beq_eq_false_iff_ne]; omega
            clear HPUT
            go_wp2_with fail
            refine (make_val hd1 _ (szE kE) _ (szB j) none _ HEx.out.reads HSx.out (by have := HEL.out; omega) (by have := HBL.out; omega) HP.out).mono ?_
            rintro e w5 ⟨rfl, hb⟩
            have HB5 := Lib.hid (HFx.out.bel.trans (hb.mono HFx.out.bel.size))
            clear hb e8
            simp only [Option.getD_none, Option.isSome_none]
            have hb0 : bs [] = ByteArray.mk #[] := rfl
            rw [hb0]
            go_wp2_with fail
            refine (awake13_any _).mono ?_
            rintro e w2 ⟨rfl, hb⟩
            have HB2 := Lib.hid (HB5.out.trans (hb.mono HB5.out.size))
            clear hb
            go_wp2_with fail
            go_ret
            exact ⟨rfl, HB2.out⟩
end
end Go.Proofs.Ytjoplgdcpihmaaa
