/- The reference's Get at a block that is long enough. -/
import Derived.Test.YtjoplgdcpihmaaaHeadQ
import Derived.Test.YtjoplgdcpihmaaaHeadH
import Derived.Deep.RegionLaw
import Derived.Deep.RegionWith
namespace Go.Proofs.Ytjoplgdcpihmaaa
open Go.RowKit
attribute [local go_sem ↓] Go.wp_at_zero Go.wp_at_succ
section
attribute [local go_sem] bs_size bs_extract bs_toList
set_option maxRecDepth 100000 in
set_option maxHeartbeats 8000000 in
theorem ref8Get_long (s : List UInt8) (w : World) (h0 : 256 ≤ s.length) (hs : s.length ≤ 140737488351232) :
    Calls Try.prog 31 #[.string (bs s)] w fun e w' => Below w.heap.size w w' ∧ 
      (refGet s = none ∧ e = .returned (.tuple #[.agg #[.int .i64 0, .int .i64 0, .int .i64 0, .int .i64 0, .int .i64 0, .int .i64 0, .int .i64 0, .int .i64 0, .slice none 0 0], .int .i64 0, .bool false]) ∨
       ∃ h l n v, refGet s = some (h, l, n) ∧ EE.Own w' w.heap.size v l ∧ e = .returned (.tuple #[.agg #[.int .i64 h.house, .int .i64 h.gen, .int .i64 h.life, .int .i64 h.seq, .int .i64 h.next, .int .i64 h.clock, .int .i64 h.sb, .int .i64 h.sn, v], .int .i64 n, .bool true])) := by
  have hx2 : (bs s).extract 0 252 = bs (s.take 252) := bs_extract s 0 252
  have HE : Hid (refGet s = if checkB (numsOf s) (entsAt s (refCnt s)) = true ∧ headBytes (numsOf s) (entsAt s (refCnt s)) = s.take 252 then
    some (numsOf s, entsAt s (refCnt s), num s 252 4) else none) := by unfold Hid refGet; rw [if_neg (by omega)]
  have hbd := num_bd s 36 1 (by decide)
  have HC : Hid (refCnt s = (min (num s 36 1) 24).toNat) := rfl
  go_enter Try.func31, Try.ntmps31
  go_wp2_with (go_at_call 92; refine (refnum_any s _ _ _ hs).mono ?_; rintro e w' ⟨rfl, rfl⟩)
  go_loopw [6] (fun i wr => ∃ (k : Nat) (v : Value), k ≤ refCnt s ∧ i = .int .i64 k ∧ RefSt w wr #[.int .i64 0, .int .i64 0, .int .i64 0, .int .i64 0, .int .i64 0, .int .i64 0, .int .i64 0, .int .i64 0, .slice none 0 0] #[.int .i64 (num s 4 1), .int .i64 (num s 5 2), .int .i64 (num s 7 3), .int .i64 (num s 10 6), .int .i64 (num s 16 2), .int .i64 (num s 18 6), .int .i64 (num s 24 6), .int .i64 (num s 30 6), v] v (entsAt s k)) (fun i _ => refCnt s - (intOf i).toNat)
  case atStart => exact ⟨0, .slice none 0 0, by omega, rfl, ((Below.refl _ _).alloc (Nat.le_refl _) _).alloc (by simp) _, by simp, El.Own.nil _ _, heap_first w _ _, heap_next w _ _⟩
  case round =>
    obtain ⟨k, v, hk, rfl, hst⟩ := hrel
    have HS0 := Lib.hid hst
    clear hst
    have hk24 : (k : Int) ≤ 24 := by have := HC.out; omega
    by_cases hlt : k < refCnt s
    · have hd1 : (k : Int) < num s 36 1 := by have := HC.out; omega
      have hd2 : (k : Int) < 24 := by have := HC.out; omega
      have HS := Lib.hid HS0.out.drew
      have c8 : wr.cell? ⟨w.heap.size + 1, 8, none⟩ = some v := HS0.out.cell 8
      have f8 := HS0.out.free 8
      have hne : w.heap.size + 1 < wr.heap.size := lt_of_block HS0.out.2.2.2.2
      have hk0 : (0 : Int) ≤ (k : Int) := by omega
      go_upto_region 7 with (go_at_call 92; refine (refnum_any s _ _ _ hs).mono ?_; rintro e w' ⟨rfl, rfl⟩)
      have HEN : Hid (entAt s k = ⟨num s (37 + 4 * (k : Int)) 1, num s (38 + 4 * (k : Int)) 1, num s (39 + 4 * (k : Int)) 2⟩) := by
        unfold Hid entAt; rw [show (38 + 4 * (k : Int)) = 37 + 4 * (k : Int) + 1 by omega, show (39 + 4 * (k : Int)) = 37 + 4 * (k : Int) + 1 + 1 by omega]
      have q0 : IntKind.i64.wrap (4 * (k : Int)) = 4 * (k : Int) := IntWalk.i64_in _ (by omega)
      have q1 : IntKind.i64.wrap (37 + 4 * (k : Int)) = 37 + 4 * (k : Int) := IntWalk.i64_in _ (by omega)
      have q2 : IntKind.i64.wrap (38 + 4 * (k : Int)) = 38 + 4 * (k : Int) := IntWalk.i64_in _ (by omega)
      have q3 : IntKind.i64.wrap (39 + 4 * (k : Int)) = 39 + 4 * (k : Int) := IntWalk.i64_in _ (by omega)
      go_region_law
        ((first | (go_simp; go_at_call 92; refine (refnum_any s _ _ _ hs).mono ?_; rintro e w' ⟨rfl, rfl⟩) | (refine ref_app HS.out ?_ ⟨num s (37 + 4 * (k : Int)) 1, num s (38 + 4 * (k : Int)) 1, num s (39 + 4 * (k : Int)) 2⟩ (by rfl) _ _ (by rfl) (by rfl) (by rfl) ?_; (rw [entsAt_length]; omega); intro A2 n2 c2 w1 hst; clear HS c8 f8 hne; have HS := Lib.hid hst; have c8 : w1.cell? ⟨w.heap.size + 1, 8, none⟩ = some v := hst.cell 8; have f8 := hst.free 8; have hne : w.heap.size + 1 < w1.heap.size := lt_of_block hst.2.2.2.2; clear hst) | fail))
      all_goals
        clear q0 q1 q2 q3
        go_wp2
        go_roundw
        case rel => exact ⟨k + 1, _, by omega, by go_num, (HS.out.set 8 _).at' rfl rfl (by rw [entsAt_succ, HEN.out])⟩
        case measure => simp only [intOf]; omega
    · have HK : Hid (k = refCnt s) := by unfold Hid; omega
      have HS := Lib.hid HS0.out.drew
      have cy : ∀ j : Nat, wr.cell? ⟨w.heap.size + 1, j, none⟩ = _ := HS0.out.cell
      have cz : ∀ j : Nat, wr.cell? ⟨w.heap.size, j, none⟩ = _ := HS0.out.cell0
      have cf : ∀ j : Nat, wr.frozen? ⟨w.heap.size, j, none⟩ = false := HS0.out.free0
      have hne : w.heap.size + 1 < wr.heap.size := HS0.out.2.1
      have HE2 : Hid (refGet s = if checkB (numsOf s) (entsAt s k) = true ∧ headBytes (numsOf s) (entsAt s k) = s.take 252 then some (numsOf s, entsAt s k, num s 252 4) else none) := by
        unfold Hid; rw [HK.out]; exact HE.out
      have hcs : (k : Int) < num s 36 1 ∨ decide ((k : Int) < num s 36 1) = false := by by_cases h : (k : Int) < num s 36 1 <;> simp [h]
      have h24 : decide ((k : Int) < num s 36 1) = true → decide ((k : Int) < 24) = false := by have := HK.out; have := HC.out; simp; omega
      have h252 : (252 : Int) ≤ (s.length : Int) := by omega
      clear hlt
      have HLE : Hid ((entsAt s k).length * 24 ≤ 140737488351232) := by unfold Hid; rw [entsAt_length]; omega
      obtain ⟨A3, c3, hv3, -⟩ := HS0.out.2.2.1.reads
      subst hv3
      cases hcb : checkB (numsOf s) (entsAt s k) with
      | false =>
        have HCB := Lib.hid hcb
        have HN : Hid (refGet s = none) := by unfold Hid; rw [HE2.out, if_neg (by rw [hcb]; simp)]
        clear hcb
        rcases hcs with hcs | hcs
        · have h24 := h24 (by simpa using hcs)
          go_upto_region 8 with (go_at_call 92; refine (refnum_any s _ _ _ hs).mono ?_; rintro e w' ⟨rfl, rfl⟩)
          first | (go_region_law ((go_simp; go_at_call 33; refine (refcheck_val (numsOf s) _ (entsAt s k) false _ HS.out.2.2.1.reads HLE.out HCB.out).mono ?_; rintro e w' ⟨rfl, hb⟩; have hst := HS.out.below hb; clear HS hne cy cz cf hb; have HS := Lib.hid hst; have hne : w.heap.size + 1 < w'.heap.size := hst.2.1; have cy := hst.cell; have cz := hst.cell0; have cf := hst.free0; clear hst))) | fail
          all_goals
            go_wp2
            have hst9 := (((((((((HS.out.set0 0 (.int .i64 0)).set0 1 (.int .i64 0)).set0 2 (.int .i64 0)).set0 3 (.int .i64 0)).set0 4 (.int .i64 0)).set0 5 (.int .i64 0)).set0 6 (.int .i64 0)).set0 7 (.int .i64 0)).set0 8 (.slice none 0 0)).at' (D' := #[.int .i64 0, .int .i64 0, .int .i64 0, .int .i64 0, .int .i64 0, .int .i64 0, .int .i64 0, .int .i64 0, .slice none 0 0]) (by simp only [List.setIfInBounds_toArray, List.set_cons_zero, List.set_cons_succ]) rfl rfl
            refine (fun (hk : ∀ W, RefSt w W #[.int .i64 0, .int .i64 0, .int .i64 0, .int .i64 0, .int .i64 0, .int .i64 0, .int .i64 0, .int .i64 0, .slice none 0 0] #[.int .i64 (num s 4 1), .int .i64 (num s 5 2), .int .i64 (num s 7 3), .int .i64 (num s 10 6), .int .i64 (num s 16 2), .int .i64 (num s 18 6), .int .i64 (num s 24 6), .int .i64 (num s 30 6), (.slice A3 (entsAt s k).length c3)] (.slice A3 (entsAt s k).length c3) (entsAt s k) → bodyPost Try.prog Try.f31 _ Exit.ret _ W) => hk _ hst9) ?_
            clear hst9
            intro W hst
            have HW := Lib.hid hst
            have dd := hst.cell0
            clear hst
            refine bodyPost_ret (v := .tuple #[.agg #[.int .i64 0, .int .i64 0, .int .i64 0, .int .i64 0, .int .i64 0, .int .i64 0, .int .i64 0, .int .i64 0, .slice none 0 0], .int .i64 0, .bool false]) (by simp [results, Try.results31, go_sem, dd]) rfl ⟨HW.out.1, .inl ⟨HN.out, rfl⟩⟩
        · clear h24
          go_upto_region 8 with (go_at_call 92; refine (refnum_any s _ _ _ hs).mono ?_; rintro e w' ⟨rfl, rfl⟩)
          first | (go_region_law ((go_simp; go_at_call 33; refine (refcheck_val (numsOf s) _ (entsAt s k) false _ HS.out.2.2.1.reads HLE.out HCB.out).mono ?_; rintro e w' ⟨rfl, hb⟩; have hst := HS.out.below hb; clear HS hne cy cz cf hb; have HS := Lib.hid hst; have hne : w.heap.size + 1 < w'.heap.size := hst.2.1; have cy := hst.cell; have cz := hst.cell0; have cf := hst.free0; clear hst))) | fail
          all_goals
            go_wp2
            have hst9 := (((((((((HS.out.set0 0 (.int .i64 0)).set0 1 (.int .i64 0)).set0 2 (.int .i64 0)).set0 3 (.int .i64 0)).set0 4 (.int .i64 0)).set0 5 (.int .i64 0)).set0 6 (.int .i64 0)).set0 7 (.int .i64 0)).set0 8 (.slice none 0 0)).at' (D' := #[.int .i64 0, .int .i64 0, .int .i64 0, .int .i64 0, .int .i64 0, .int .i64 0, .int .i64 0, .int .i64 0, .slice none 0 0]) (by simp only [List.setIfInBounds_toArray, List.set_cons_zero, List.set_cons_succ]) rfl rfl
            refine (fun (hk : ∀ W, RefSt w W #[.int .i64 0, .int .i64 0, .int .i64 0, .int .i64 0, .int .i64 0, .int .i64 0, .int .i64 0, .int .i64 0, .slice none 0 0] #[.int .i64 (num s 4 1), .int .i64 (num s 5 2), .int .i64 (num s 7 3), .int .i64 (num s 10 6), .int .i64 (num s 16 2), .int .i64 (num s 18 6), .int .i64 (num s 24 6), .int .i64 (num s 30 6), (.slice A3 (entsAt s k).length c3)] (.slice A3 (entsAt s k).length c3) (entsAt s k) → bodyPost Try.prog Try.f31 _ Exit.ret _ W) => hk _ hst9) ?_
            clear hst9
            intro W hst
            have HW := Lib.hid hst
            have dd := hst.cell0
            clear hst
            refine bodyPost_ret (v := .tuple #[.agg #[.int .i64 0, .int .i64 0, .int .i64 0, .int .i64 0, .int .i64 0, .int .i64 0, .int .i64 0, .int .i64 0, .slice none 0 0], .int .i64 0, .bool false]) (by simp [results, Try.results31, go_sem, dd]) rfl ⟨HW.out.1, .inl ⟨HN.out, rfl⟩⟩
      | true =>
        have HCB := Lib.hid hcb
        have HL24 : Hid ((entsAt s k).length ≤ 24) := checkB_len hcb
        clear hcb
        rcases hcs with hcs | hcs
        · have h24 := h24 (by simpa using hcs)
          go_upto_region 8 with (go_at_call 92; refine (refnum_any s _ _ _ hs).mono ?_; rintro e w' ⟨rfl, rfl⟩)
          first | (go_region_law ((first | (go_simp; go_at_call 33; refine (refcheck_val (numsOf s) _ (entsAt s k) true _ HS.out.2.2.1.reads HLE.out HCB.out).mono ?_; rintro e w' ⟨rfl, hb⟩; have hst := HS.out.below hb; clear HS hne cy cz cf hb; have HS := Lib.hid hst; have hne : w.heap.size + 1 < w'.heap.size := hst.2.1; have cy := hst.cell; have cz := hst.cell0; have cf := hst.free0; clear hst) | (go_simp; go_at_call 89; refine (front_any (numsOf s) _ (entsAt s k) _ HS.out.2.2.1.reads HL24.out).mono ?_; rintro e w' ⟨rfl, hb⟩; have hst := HS.out.below hb; clear HS hne cy cz cf hb; have HS := Lib.hid hst; have hne : w.heap.size + 1 < w'.heap.size := hst.2.1; have cy := hst.cell; have cz := hst.cell0; have cf := hst.free0; clear hst) | fail))) | fail
          all_goals
            by_cases heq : headBytes (numsOf s) (entsAt s k) = s.take 252
            · have hq : (headBytes (numsOf s) (entsAt s k) == s.take 252) = true := by rw [heq]; simp
              have HF : Hid (refGet s = some (numsOf s, entsAt s k, num s 252 4)) := by unfold Hid; rw [HE2.out, if_pos ⟨HCB.out, heq⟩]
              clear heq
              simp only [hq, Bool.not_true]
              go_upto_region 10 with fail
              go_region_law ((go_simp; go_at_call 92; refine (refnum_any s _ _ _ hs).mono ?_; rintro e w9 ⟨rfl, rfl⟩))
              all_goals
                go_wp2
                have hst9 := (((((((((HS.out.set0 0 (.int .i64 (num s 4 1))).set0 1 (.int .i64 (num s 5 2))).set0 2 (.int .i64 (num s 7 3))).set0 3 (.int .i64 (num s 10 6))).set0 4 (.int .i64 (num s 16 2))).set0 5 (.int .i64 (num s 18 6))).set0 6 (.int .i64 (num s 24 6))).set0 7 (.int .i64 (num s 30 6))).set0 8 (.slice A3 (entsAt s k).length c3)).at' (D' := #[.int .i64 (num s 4 1), .int .i64 (num s 5 2), .int .i64 (num s 7 3), .int .i64 (num s 10 6), .int .i64 (num s 16 2), .int .i64 (num s 18 6), .int .i64 (num s 24 6), .int .i64 (num s 30 6), .slice A3 (entsAt s k).length c3]) (by simp only [List.setIfInBounds_toArray, List.set_cons_zero, List.set_cons_succ]) rfl rfl |>.drew
                refine (fun (hk : ∀ W, RefSt w W #[.int .i64 (num s 4 1), .int .i64 (num s 5 2), .int .i64 (num s 7 3), .int .i64 (num s 10 6), .int .i64 (num s 16 2), .int .i64 (num s 18 6), .int .i64 (num s 24 6), .int .i64 (num s 30 6), .slice A3 (entsAt s k).length c3] #[.int .i64 (num s 4 1), .int .i64 (num s 5 2), .int .i64 (num s 7 3), .int .i64 (num s 10 6), .int .i64 (num s 16 2), .int .i64 (num s 18 6), .int .i64 (num s 24 6), .int .i64 (num s 30 6), (.slice A3 (entsAt s k).length c3)] (.slice A3 (entsAt s k).length c3) (entsAt s k) → bodyPost Try.prog Try.f31 _ Exit.ret _ W) => hk _ hst9) ?_
                clear hst9
                intro W hst
                have HW := Lib.hid hst
                have dd := hst.cell0
                clear hst
                refine bodyPost_ret (v := .tuple #[.agg #[.int .i64 (num s 4 1), .int .i64 (num s 5 2), .int .i64 (num s 7 3), .int .i64 (num s 10 6), .int .i64 (num s 16 2), .int .i64 (num s 18 6), .int .i64 (num s 24 6), .int .i64 (num s 30 6), .slice A3 (entsAt s k).length c3], .int .i64 (num s 252 4), .bool true]) (by simp [results, Try.results31, go_sem, dd]) rfl ⟨HW.out.1, .inr ⟨numsOf s, entsAt s k, num s 252 4, .slice A3 (entsAt s k).length c3, HF.out, HW.out.2.2.1.mono (by omega), rfl⟩⟩
            · have hq : (headBytes (numsOf s) (entsAt s k) == s.take 252) = false := by simpa using heq
              have HN : Hid (refGet s = none) := by unfold Hid; rw [HE2.out, if_neg (fun hh => heq hh.2)]
              clear heq
              simp only [hq, Bool.not_false]
              go_wp2
              have hst9 := (((((((((HS.out.set0 0 (.int .i64 0)).set0 1 (.int .i64 0)).set0 2 (.int .i64 0)).set0 3 (.int .i64 0)).set0 4 (.int .i64 0)).set0 5 (.int .i64 0)).set0 6 (.int .i64 0)).set0 7 (.int .i64 0)).set0 8 (.slice none 0 0)).at' (D' := #[.int .i64 0, .int .i64 0, .int .i64 0, .int .i64 0, .int .i64 0, .int .i64 0, .int .i64 0, .int .i64 0, .slice none 0 0]) (by simp only [List.setIfInBounds_toArray, List.set_cons_zero, List.set_cons_succ]) rfl rfl
              refine (fun (hk : ∀ W, RefSt w W #[.int .i64 0, .int .i64 0, .int .i64 0, .int .i64 0, .int .i64 0, .int .i64 0, .int .i64 0, .int .i64 0, .slice none 0 0] #[.int .i64 (num s 4 1), .int .i64 (num s 5 2), .int .i64 (num s 7 3), .int .i64 (num s 10 6), .int .i64 (num s 16 2), .int .i64 (num s 18 6), .int .i64 (num s 24 6), .int .i64 (num s 30 6), (.slice A3 (entsAt s k).length c3)] (.slice A3 (entsAt s k).length c3) (entsAt s k) → bodyPost Try.prog Try.f31 _ Exit.ret _ W) => hk _ hst9) ?_
              clear hst9
              intro W hst
              have HW := Lib.hid hst
              have dd := hst.cell0
              clear hst
              refine bodyPost_ret (v := .tuple #[.agg #[.int .i64 0, .int .i64 0, .int .i64 0, .int .i64 0, .int .i64 0, .int .i64 0, .int .i64 0, .int .i64 0, .slice none 0 0], .int .i64 0, .bool false]) (by simp [results, Try.results31, go_sem, dd]) rfl ⟨HW.out.1, .inl ⟨HN.out, rfl⟩⟩
        · clear h24
          go_upto_region 8 with (go_at_call 92; refine (refnum_any s _ _ _ hs).mono ?_; rintro e w' ⟨rfl, rfl⟩)
          first | (go_region_law ((first | (go_simp; go_at_call 33; refine (refcheck_val (numsOf s) _ (entsAt s k) true _ HS.out.2.2.1.reads HLE.out HCB.out).mono ?_; rintro e w' ⟨rfl, hb⟩; have hst := HS.out.below hb; clear HS hne cy cz cf hb; have HS := Lib.hid hst; have hne : w.heap.size + 1 < w'.heap.size := hst.2.1; have cy := hst.cell; have cz := hst.cell0; have cf := hst.free0; clear hst) | (go_simp; go_at_call 89; refine (front_any (numsOf s) _ (entsAt s k) _ HS.out.2.2.1.reads HL24.out).mono ?_; rintro e w' ⟨rfl, hb⟩; have hst := HS.out.below hb; clear HS hne cy cz cf hb; have HS := Lib.hid hst; have hne : w.heap.size + 1 < w'.heap.size := hst.2.1; have cy := hst.cell; have cz := hst.cell0; have cf := hst.free0; clear hst) | fail))) | fail
          all_goals
            by_cases heq : headBytes (numsOf s) (entsAt s k) = s.take 252
            · have hq : (headBytes (numsOf s) (entsAt s k) == s.take 252) = true := by rw [heq]; simp
              have HF : Hid (refGet s = some (numsOf s, entsAt s k, num s 252 4)) := by unfold Hid; rw [HE2.out, if_pos ⟨HCB.out, heq⟩]
              clear heq
              simp only [hq, Bool.not_true]
              go_upto_region 10 with fail
              go_region_law ((go_simp; go_at_call 92; refine (refnum_any s _ _ _ hs).mono ?_; rintro e w9 ⟨rfl, rfl⟩))
              all_goals
                go_wp2
                have hst9 := (((((((((HS.out.set0 0 (.int .i64 (num s 4 1))).set0 1 (.int .i64 (num s 5 2))).set0 2 (.int .i64 (num s 7 3))).set0 3 (.int .i64 (num s 10 6))).set0 4 (.int .i64 (num s 16 2))).set0 5 (.int .i64 (num s 18 6))).set0 6 (.int .i64 (num s 24 6))).set0 7 (.int .i64 (num s 30 6))).set0 8 (.slice A3 (entsAt s k).length c3)).at' (D' := #[.int .i64 (num s 4 1), .int .i64 (num s 5 2), .int .i64 (num s 7 3), .int .i64 (num s 10 6), .int .i64 (num s 16 2), .int .i64 (num s 18 6), .int .i64 (num s 24 6), .int .i64 (num s 30 6), .slice A3 (entsAt s k).length c3]) (by simp only [List.setIfInBounds_toArray, List.set_cons_zero, List.set_cons_succ]) rfl rfl |>.drew
                refine (fun (hk : ∀ W, RefSt w W #[.int .i64 (num s 4 1), .int .i64 (num s 5 2), .int .i64 (num s 7 3), .int .i64 (num s 10 6), .int .i64 (num s 16 2), .int .i64 (num s 18 6), .int .i64 (num s 24 6), .int .i64 (num s 30 6), .slice A3 (entsAt s k).length c3] #[.int .i64 (num s 4 1), .int .i64 (num s 5 2), .int .i64 (num s 7 3), .int .i64 (num s 10 6), .int .i64 (num s 16 2), .int .i64 (num s 18 6), .int .i64 (num s 24 6), .int .i64 (num s 30 6), (.slice A3 (entsAt s k).length c3)] (.slice A3 (entsAt s k).length c3) (entsAt s k) → bodyPost Try.prog Try.f31 _ Exit.ret _ W) => hk _ hst9) ?_
                clear hst9
                intro W hst
                have HW := Lib.hid hst
                have dd := hst.cell0
                clear hst
                refine bodyPost_ret (v := .tuple #[.agg #[.int .i64 (num s 4 1), .int .i64 (num s 5 2), .int .i64 (num s 7 3), .int .i64 (num s 10 6), .int .i64 (num s 16 2), .int .i64 (num s 18 6), .int .i64 (num s 24 6), .int .i64 (num s 30 6), .slice A3 (entsAt s k).length c3], .int .i64 (num s 252 4), .bool true]) (by simp [results, Try.results31, go_sem, dd]) rfl ⟨HW.out.1, .inr ⟨numsOf s, entsAt s k, num s 252 4, .slice A3 (entsAt s k).length c3, HF.out, HW.out.2.2.1.mono (by omega), rfl⟩⟩
            · have hq : (headBytes (numsOf s) (entsAt s k) == s.take 252) = false := by simpa using heq
              have HN : Hid (refGet s = none) := by unfold Hid; rw [HE2.out, if_neg (fun hh => heq hh.2)]
              clear heq
              simp only [hq, Bool.not_false]
              go_wp2
              have hst9 := (((((((((HS.out.set0 0 (.int .i64 0)).set0 1 (.int .i64 0)).set0 2 (.int .i64 0)).set0 3 (.int .i64 0)).set0 4 (.int .i64 0)).set0 5 (.int .i64 0)).set0 6 (.int .i64 0)).set0 7 (.int .i64 0)).set0 8 (.slice none 0 0)).at' (D' := #[.int .i64 0, .int .i64 0, .int .i64 0, .int .i64 0, .int .i64 0, .int .i64 0, .int .i64 0, .int .i64 0, .slice none 0 0]) (by simp only [List.setIfInBounds_toArray, List.set_cons_zero, List.set_cons_succ]) rfl rfl
              refine (fun (hk : ∀ W, RefSt w W #[.int .i64 0, .int .i64 0, .int .i64 0, .int .i64 0, .int .i64 0, .int .i64 0, .int .i64 0, .int .i64 0, .slice none 0 0] #[.int .i64 (num s 4 1), .int .i64 (num s 5 2), .int .i64 (num s 7 3), .int .i64 (num s 10 6), .int .i64 (num s 16 2), .int .i64 (num s 18 6), .int .i64 (num s 24 6), .int .i64 (num s 30 6), (.slice A3 (entsAt s k).length c3)] (.slice A3 (entsAt s k).length c3) (entsAt s k) → bodyPost Try.prog Try.f31 _ Exit.ret _ W) => hk _ hst9) ?_
              clear hst9
              intro W hst
              have HW := Lib.hid hst
              have dd := hst.cell0
              clear hst
              refine bodyPost_ret (v := .tuple #[.agg #[.int .i64 0, .int .i64 0, .int .i64 0, .int .i64 0, .int .i64 0, .int .i64 0, .int .i64 0, .int .i64 0, .slice none 0 0], .int .i64 0, .bool false]) (by simp [results, Try.results31, go_sem, dd]) rfl ⟨HW.out.1, .inl ⟨HN.out, rfl⟩⟩
end
end Go.Proofs.Ytjoplgdcpihmaaa
