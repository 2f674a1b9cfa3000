/- head.Get at a block that is long enough. -/
import Derived.Test.YtjoplgdcpihmaaaHeadJ
import Derived.Deep.RegionLaw
import Derived.Deep.RegionWith
namespace Go.Proofs.Ytjoplgdcpihmaaa
open Go.RowKit
attribute [local go_sem ↓] Go.wp_at_zero Go.wp_at_succ
theorem in_state {S G : World → Prop} {w : World} (h : S w) (hk : ∀ W, S W → G W) : G w := hk w h
section
attribute [local go_sem] bs_size bs_extract bs_toList
set_option maxRecDepth 100000 in
set_option maxHeartbeats 8000000 in
theorem headGet_long (s : List UInt8) (w : World) (h0 : 256 ≤ s.length) (hs : s.length ≤ 140737488351232) :
    Calls Try.prog 30 #[.string (bs s)] w fun e w' => Below w.heap.size w w' ∧ 
      (getHead s = none ∧ e = .returned (.tuple #[.agg #[.int .i64 0, .int .i64 0, .int .i64 0, .int .i64 0, .int .i64 0, .int .i64 0, .int .i64 0, .int .i64 0, .slice none 0 0], .int .i64 0, .bool false]) ∨
       ∃ h l n v, getHead s = some (h, l, n) ∧ EE.Own w' w.heap.size v l ∧ e = .returned (.tuple #[.agg #[.int .i64 h.house, .int .i64 h.gen, .int .i64 h.life, .int .i64 h.seq, .int .i64 h.next, .int .i64 h.clock, .int .i64 h.sb, .int .i64 h.sn, v], .int .i64 n, .bool true])) := by
  have hx : (bs s).extract 0 256 = bs (s.take 256) := bs_extract s 0 256
  have hx2 : (bs s).extract 0 252 = bs (s.take 252) := bs_extract s 0 252
  have HL : Hid ((s.take 256).length ≤ 140737488351232) := by unfold Hid; rw [List.length_take]; omega
  have HE : Hid (getHead s = if checkB (numsOf (s.take 256)) (entsAt (s.take 256) (cntOf (s.take 256))) = true ∧ headBytes (numsOf (s.take 256)) (entsAt (s.take 256) (cntOf (s.take 256))) = s.take 252 then
    some (numsOf (s.take 256), entsAt (s.take 256) (cntOf (s.take 256)), num (s.take 256) 252 4) else none) := by unfold Hid getHead; rw [if_neg (by omega)]
  generalize s.take 256 = b at *
  have HG : Hid (((w.alloc (.cells #[.int .i64 0, .int .i64 0, .int .i64 0, .int .i64 0, .int .i64 0, .int .i64 0, .int .i64 0, .int .i64 0, .slice none 0 0] 24)).alloc (.cells #[.string (bs b), .int .i64 4] 124)).heap[w.heap.size + 1]? = some (.cells #[.string (bs b), .int .i64 4] 124 (0, 0))) := heap_next w _ _
  have HX : Hid (((w.alloc (.cells #[.int .i64 0, .int .i64 0, .int .i64 0, .int .i64 0, .int .i64 0, .int .i64 0, .int .i64 0, .int .i64 0, .slice none 0 0] 24)).alloc (.cells #[.string (bs b), .int .i64 4] 124)).heap[w.heap.size]? = some (.cells #[.int .i64 0, .int .i64 0, .int .i64 0, .int .i64 0, .int .i64 0, .int .i64 0, .int .i64 0, .int .i64 0, .slice none 0 0] 24 (0, 0))) := heap_first w _ _
  have HB : Hid (Below w.heap.size w ((w.alloc (.cells #[.int .i64 0, .int .i64 0, .int .i64 0, .int .i64 0, .int .i64 0, .int .i64 0, .int .i64 0, .int .i64 0, .slice none 0 0] 24)).alloc (.cells #[.string (bs b), .int .i64 4] 124))) := ((Below.refl _ _).alloc (Nat.le_refl _) _).alloc (by simp) _
  have c0 : True := trivial
  have f0 : True := trivial
  have c1 : True := trivial
  have f1 : True := trivial
  have c2 : True := trivial
  have f2 : True := trivial
  have c3 : True := trivial
  have f3 : True := trivial
  have c4 : True := trivial
  have f4 : True := trivial
  have c5 : True := trivial
  have f5 : True := trivial
  have c6 : True := trivial
  have f6 : True := trivial
  have c7 : True := trivial
  have f7 : True := trivial
  have c8 : True := trivial
  have f8 : True := trivial
  go_enter Try.func30, Try.ntmps30
  go_upto_region 5 with fail
  go_cut [] (fun wc => Below w.heap.size w wc ∧ wc.heap[w.heap.size]? = some (.cells #[.int .i64 (num b 4 1), .int .i64 (num b 5 2), .int .i64 (num b 7 3), .int .i64 (num b 10 6), .int .i64 0, .int .i64 0, .int .i64 0, .int .i64 0, .slice none 0 0] 24 (0, 0)) ∧ wc.heap[w.heap.size + 1]? = some (.cells #[.string (bs b), .int .i64 16] 124 (0, 0)))
  case first =>
    go_wp2_with (go_at_call 91; refine (rget_any _ _ _ _ _ HG.out HL.out (by decide) (by decide) (by decide) (by decide)).mono ?_; rintro e w' ⟨rfl, hgr, hg1⟩; have hx1 := (hgr.block _ (lt_of_block HX.out) (by simp)).trans HX.out; have hb1 := HB.out.grown hgr (Nat.le_of_lt (lt_of_block HX.out)) (fun k e => by injection e; omega); clear HG HX HB c0 f0 c1 f1 c2 f2 c3 f3 c4 f4 c5 f5 c6 f6 c7 f7 c8 f8; have HG := Lib.hid hg1; have HX := Lib.hid hx1; have HB := Lib.hid hb1; have c0 := cell_of_row _ _ 0 _ _ _ hx1; have f0 := free_of_row hx1 0; have c1 := cell_of_row _ _ 1 _ _ _ hx1; have f1 := free_of_row hx1 1; have c2 := cell_of_row _ _ 2 _ _ _ hx1; have f2 := free_of_row hx1 2; have c3 := cell_of_row _ _ 3 _ _ _ hx1; have f3 := free_of_row hx1 3; have c4 := cell_of_row _ _ 4 _ _ _ hx1; have f4 := free_of_row hx1 4; have c5 := cell_of_row _ _ 5 _ _ _ hx1; have f5 := free_of_row hx1 5; have c6 := cell_of_row _ _ 6 _ _ _ hx1; have f6 := free_of_row hx1 6; have c7 := cell_of_row _ _ 7 _ _ _ hx1; have f7 := free_of_row hx1 7; have c8 := cell_of_row _ _ 8 _ _ _ hx1; have f8 := free_of_row hx1 8; clear hg1 hx1 hb1 hgr)
    go_meet
    case rel => exact ⟨(Below.setCell (Below.setCell (Below.setCell (Below.setCell HB.out (Nat.le_refl _) _) (Nat.le_refl _) _) (Nat.le_refl _) _) (Nat.le_refl _) _), (heap_set (heap_set (heap_set (heap_set HX.out 0 _) 1 _) 2 _) 3 _).trans rfl, ((Below.heap_setCell _ _ _ _ (by simp)).trans ((Below.heap_setCell _ _ _ _ (by simp)).trans ((Below.heap_setCell _ _ _ _ (by simp)).trans ((Below.heap_setCell _ _ _ _ (by simp)).trans HG.out))))⟩
  case rest =>
    obtain ⟨hb, hx1, hg⟩ := hcut
    clear HB HX HG
    have HB := Lib.hid hb
    have HX := Lib.hid hx1
    have HG := Lib.hid hg
    clear hb hg hx1
    go_upto_region 6 with fail
    go_cut [] (fun wc => Below w.heap.size w wc ∧ wc.heap[w.heap.size]? = some (.cells #[.int .i64 (num b 4 1), .int .i64 (num b 5 2), .int .i64 (num b 7 3), .int .i64 (num b 10 6), .int .i64 (num b 16 2), .int .i64 (num b 18 6), .int .i64 (num b 24 6), .int .i64 (num b 30 6), .slice none 0 0] 24 (0, 0)) ∧ wc.heap[w.heap.size + 1]? = some (.cells #[.string (bs b), .int .i64 36] 124 (0, 0)))
    case first =>
      go_wp2_with (go_at_call 91; refine (rget_any _ _ _ _ _ HG.out HL.out (by decide) (by decide) (by decide) (by decide)).mono ?_; rintro e w' ⟨rfl, hgr, hg1⟩; have hx1 := (hgr.block _ (lt_of_block HX.out) (by simp)).trans HX.out; have hb1 := HB.out.grown hgr (Nat.le_of_lt (lt_of_block HX.out)) (fun k e => by injection e; omega); clear HG HX HB c0 f0 c1 f1 c2 f2 c3 f3 c4 f4 c5 f5 c6 f6 c7 f7 c8 f8; have HG := Lib.hid hg1; have HX := Lib.hid hx1; have HB := Lib.hid hb1; have c0 := cell_of_row _ _ 0 _ _ _ hx1; have f0 := free_of_row hx1 0; have c1 := cell_of_row _ _ 1 _ _ _ hx1; have f1 := free_of_row hx1 1; have c2 := cell_of_row _ _ 2 _ _ _ hx1; have f2 := free_of_row hx1 2; have c3 := cell_of_row _ _ 3 _ _ _ hx1; have f3 := free_of_row hx1 3; have c4 := cell_of_row _ _ 4 _ _ _ hx1; have f4 := free_of_row hx1 4; have c5 := cell_of_row _ _ 5 _ _ _ hx1; have f5 := free_of_row hx1 5; have c6 := cell_of_row _ _ 6 _ _ _ hx1; have f6 := free_of_row hx1 6; have c7 := cell_of_row _ _ 7 _ _ _ hx1; have f7 := free_of_row hx1 7; have c8 := cell_of_row _ _ 8 _ _ _ hx1; have f8 := free_of_row hx1 8; clear hg1 hx1 hb1 hgr)
      go_meet
      case rel => exact ⟨(Below.setCell (Below.setCell (Below.setCell (Below.setCell HB.out (Nat.le_refl _) _) (Nat.le_refl _) _) (Nat.le_refl _) _) (Nat.le_refl _) _), (heap_set (heap_set (heap_set (heap_set HX.out 4 _) 5 _) 6 _) 7 _).trans rfl, ((Below.heap_setCell _ _ _ _ (by simp)).trans ((Below.heap_setCell _ _ _ _ (by simp)).trans ((Below.heap_setCell _ _ _ _ (by simp)).trans ((Below.heap_setCell _ _ _ _ (by simp)).trans HG.out))))⟩
    case rest =>
      obtain ⟨hb, hx1, hg⟩ := hcut
      clear HB HX HG
      have HB := Lib.hid hb
      have HX := Lib.hid hx1
      have HG := Lib.hid hg
      clear hb hg hx1
      go_upto_region 7 with fail
      go_cut [43, 44] (fun v43 v44 wc => v43 = .int .i64 (cntOf b) ∧ v44 = .int .i64 0 ∧ Below w.heap.size w wc ∧ wc.heap[w.heap.size]? = some (.cells #[.int .i64 (num b 4 1), .int .i64 (num b 5 2), .int .i64 (num b 7 3), .int .i64 (num b 10 6), .int .i64 (num b 16 2), .int .i64 (num b 18 6), .int .i64 (num b 24 6), .int .i64 (num b 30 6), .slice none 0 0] 24 (0, 0)) ∧ wc.heap[w.heap.size + 1]? = some (.cells #[.string (bs b), .int .i64 37] 124 (0, 0)))
      case first =>
        have hbd := num_bd b 36 1 (by decide)
        have hcn : (cntOf b : Int) = min (num b 36 1) 25 := by unfold cntOf; omega
        have HCN := Lib.hid hcn
        clear hcn
        have HNM : Hid ((getB b 36 1).getD 0 = num b 36 1) := rfl
        go_wp2_with (go_at_call 91; refine (rget_any _ _ _ _ _ HG.out HL.out (by decide) (by decide) (by decide) (by decide)).mono ?_; rw [HNM.out]; rintro e w' ⟨rfl, hgr, hg1⟩; have hx1 := (hgr.block _ (lt_of_block HX.out) (by simp)).trans HX.out; have hb1 := HB.out.grown hgr (Nat.le_of_lt (lt_of_block HX.out)) (fun k e => by injection e; omega); clear HG HX HB c0 f0 c1 f1 c2 f2 c3 f3 c4 f4 c5 f5 c6 f6 c7 f7 c8 f8; have HG := Lib.hid hg1; have HX := Lib.hid hx1; have HB := Lib.hid hb1; have c0 := cell_of_row _ _ 0 _ _ _ hx1; have f0 := free_of_row hx1 0; have c1 := cell_of_row _ _ 1 _ _ _ hx1; have f1 := free_of_row hx1 1; have c2 := cell_of_row _ _ 2 _ _ _ hx1; have f2 := free_of_row hx1 2; have c3 := cell_of_row _ _ 3 _ _ _ hx1; have f3 := free_of_row hx1 3; have c4 := cell_of_row _ _ 4 _ _ _ hx1; have f4 := free_of_row hx1 4; have c5 := cell_of_row _ _ 5 _ _ _ hx1; have f5 := free_of_row hx1 5; have c6 := cell_of_row _ _ 6 _ _ _ hx1; have f6 := free_of_row hx1 6; have c7 := cell_of_row _ _ 7 _ _ _ hx1; have f7 := free_of_row hx1 7; have c8 := cell_of_row _ _ 8 _ _ _ hx1; have f8 := free_of_row hx1 8; clear hg1 hx1 hb1 hgr)
        all_goals
          go_meet
          case rel => exact ⟨congrArg (Value.int .i64) (by rw [HCN.out]; omega), rfl, HB.out, HX.out, HG.out⟩
      case rest =>
        obtain ⟨rfl, rfl, hb, hx1, hg⟩ := hcut
        clear HB HX HG c0 f0 c1 f1 c2 f2 c3 f3 c4 f4 c5 f5 c6 f6 c7 f7 c8 f8
        have hcn : cntOf b ≤ 25 := by unfold cntOf; omega
        go_wp2
        go_loopw [44] (fun i wr => ∃ (k : Nat) (v : Value), k ≤ cntOf b ∧ i = .int .i64 k ∧ GetSt w wr b #[.int .i64 (num b 4 1), .int .i64 (num b 5 2), .int .i64 (num b 7 3), .int .i64 (num b 10 6), .int .i64 (num b 16 2), .int .i64 (num b 18 6), .int .i64 (num b 24 6), .int .i64 (num b 30 6), v] (37 + 4 * (k : Int)) v (entsAt b k)) (fun i _ => cntOf b - (intOf i).toNat)
        case atStart => exact ⟨0, .slice none 0 0, by omega, rfl, hb, lt_of_block hg, El.Own.nil _ _, hx1, hg⟩
        clear hb hx1 hg
        case round =>
          obtain ⟨k, v, hk, rfl, hst⟩ := hrel
          have HS0 := Lib.hid hst
          clear hst
          by_cases hlt : k < cntOf b
          · have HS := Lib.hid HS0.out.drew
            have c8 : wr.cell? ⟨w.heap.size, 8, none⟩ = some v := HS0.out.cell 8
            have f8 := HS0.out.free 8
            have hne : w.heap.size < wr.heap.size := lt_of_block HS0.out.2.2.2.1
            have hk25 : (k : Int) ≤ 24 := by omega
            have hk0 : (0 : Int) ≤ (k : Int) := by omega
            go_upto_region 9 with fail
            go_region_law
              ((first | (refine step_get HS.out HL.out _ ?_ ?_ ?_ ?_ (by rfl) _ _ (by rfl) (by rfl) (by rfl) ?_; omega; omega; decide; decide; intro w' hst; clear HS c8 f8 hne; have HS := Lib.hid hst; have c8 : w'.cell? ⟨w.heap.size, 8, none⟩ = some v := hst.cell 8; have f8 := hst.free 8; have hne : w.heap.size < w'.heap.size := lt_of_block hst.2.2.2.1; clear hst) | (refine get_app HS.out ?_ (entAt b k) (by rfl) _ _ (by rfl) (by rfl) (by rfl) ?_; (rw [entsAt_length]; omega); intro A2 n2 c2 w1 hst; clear HS c8 f8 hne; have HS := Lib.hid hst; have c8 : w1.cell? ⟨w.heap.size, 8, none⟩ = some v := hst.cell 8; have f8 := hst.free 8; have hne : w.heap.size < w1.heap.size := lt_of_block hst.2.2.2.1; clear hst) | fail))
            all_goals
              go_wp2
              go_roundw
              case rel => exact ⟨k + 1, _, by omega, by go_num, (HS.out.set 8 _).at' rfl (by omega) (entsAt_succ b k).symm⟩
              case measure => simp only [intOf]; omega
          · have HK : Hid (k = cntOf b) := by unfold Hid; omega
            have HS := Lib.hid HS0.out.drew
            have hne : w.heap.size < wr.heap.size := lt_of_block HS0.out.2.2.2.1
            have c0 := HS0.out.cell 0
            have c1 := HS0.out.cell 1
            have c2 := HS0.out.cell 2
            have c3 := HS0.out.cell 3
            have c4 := HS0.out.cell 4
            have c5 := HS0.out.cell 5
            have c6 := HS0.out.cell 6
            have c7 := HS0.out.cell 7
            have c8 := HS0.out.cell 8
            have HE2 : Hid (getHead s = if checkB (numsOf b) (entsAt b k) = true ∧ headBytes (numsOf b) (entsAt b k) = s.take 252 then some (numsOf b, entsAt b k, num b 252 4) else none) := by
              unfold Hid; rw [HK.out]; exact HE.out
            go_upto_region 11 with fail
            cases hcb : checkB (numsOf b) (entsAt b k) with
            | false =>
              have HC := Lib.hid hcb
              have HN : Hid (getHead s = none) := by unfold Hid; rw [HE2.out, if_neg (by rw [hcb]; simp)]
              clear hcb
              first | (go_region_law ((first | (refine step_call 32 cf32 _ _ (by rfl) (by rfl) _ (by rfl) _ (check_val (numsOf b) v (entsAt b k) false _ HS.out.2.2.1.reads ?_ HC.out) ?_; (rw [entsAt_length]; omega); rintro e w' ⟨rfl, hb⟩; refine ⟨_, rfl, ?_⟩; have hst := HS.out.below hb; clear HS hne c0 c1 c2 c3 c4 c5 c6 c7 c8 hb; have HS := Lib.hid hst; have hne : w.heap.size < w'.heap.size := lt_of_block hst.2.2.2.1; have c0 := hst.cell 0; have c1 := hst.cell 1; have c2 := hst.cell 2; have c3 := hst.cell 3; have c4 := hst.cell 4; have c5 := hst.cell 5; have c6 := hst.cell 6; have c7 := hst.cell 7; have c8 := hst.cell 8; clear hst) | fail))) | fail
              all_goals
                have f0 := HS.out.free 0
                have f1 := HS.out.free 1
                have f2 := HS.out.free 2
                have f3 := HS.out.free 3
                have f4 := HS.out.free 4
                have f5 := HS.out.free 5
                have f6 := HS.out.free 6
                have f7 := HS.out.free 7
                have f8 := HS.out.free 8
                go_wp2
                have hst9 := (((((((((HS.out.set 0 (.int .i64 0)).set 1 (.int .i64 0)).set 2 (.int .i64 0)).set 3 (.int .i64 0)).set 4 (.int .i64 0)).set 5 (.int .i64 0)).set 6 (.int .i64 0)).set 7 (.int .i64 0)).set 8 (.slice none 0 0)).at' (C' := #[.int .i64 0, .int .i64 0, .int .i64 0, .int .i64 0, .int .i64 0, .int .i64 0, .int .i64 0, .int .i64 0, .slice none 0 0]) (by simp only [List.setIfInBounds_toArray, List.set_cons_zero, List.set_cons_succ]) rfl rfl
                refine (fun (hk : ∀ W, GetSt w W b #[.int .i64 0, .int .i64 0, .int .i64 0, .int .i64 0, .int .i64 0, .int .i64 0, .int .i64 0, .int .i64 0, .slice none 0 0] (37 + 4 * (k : Int)) v (entsAt b k) → bodyPost Try.prog Try.f30 _ Exit.ret _ W) => hk _ hst9) ?_
                clear hst9
                intro W hst
                have HW := Lib.hid hst
                have d0 := hst.cell 0
                have d1 := hst.cell 1
                have d2 := hst.cell 2
                have d3 := hst.cell 3
                have d4 := hst.cell 4
                have d5 := hst.cell 5
                have d6 := hst.cell 6
                have d7 := hst.cell 7
                have d8 := hst.cell 8
                clear hst
                refine bodyPost_ret (v := .tuple #[.agg #[.int .i64 0, .int .i64 0, .int .i64 0, .int .i64 0, .int .i64 0, .int .i64 0, .int .i64 0, .int .i64 0, .slice none 0 0], .int .i64 0, .bool false]) (by simp [results, Try.results30, go_sem, d0, d1, d2, d3, d4, d5, d6, d7, d8]) rfl ⟨HW.out.1, .inl ⟨HN.out, rfl⟩⟩
            | true =>
              have HC := Lib.hid hcb
              have h24 := checkB_len hcb
              have h252 : (252 : Int) ≤ (s.length : Int) := by omega
              clear hcb
              go_region_law ((first | (refine step_call 32 cf32 _ _ (by rfl) (by rfl) _ (by rfl) _ (check_val (numsOf b) v (entsAt b k) true _ HS.out.2.2.1.reads ?_ HC.out) ?_; (rw [entsAt_length]; omega); rintro e w' ⟨rfl, hb⟩; refine ⟨_, rfl, ?_⟩; have hst := HS.out.below hb; clear HS hne c0 c1 c2 c3 c4 c5 c6 c7 c8 hb; have HS := Lib.hid hst; have hne : w.heap.size < w'.heap.size := lt_of_block hst.2.2.2.1; have c0 := hst.cell 0; have c1 := hst.cell 1; have c2 := hst.cell 2; have c3 := hst.cell 3; have c4 := hst.cell 4; have c5 := hst.cell 5; have c6 := hst.cell 6; have c7 := hst.cell 7; have c8 := hst.cell 8; clear hst) | (refine step_call 87 cf87 _ _ (by rfl) (by rfl) _ (by rfl) _ (bytes_any (numsOf b) v (entsAt b k) _ HS.out.2.2.1.reads ?_) ?_; exact h24; rintro e w' ⟨rfl, hb⟩; refine ⟨_, rfl, ?_⟩; have hst := HS.out.below hb; clear HS hne c0 c1 c2 c3 c4 c5 c6 c7 c8 hb; have HS := Lib.hid hst; have hne : w.heap.size < w'.heap.size := lt_of_block hst.2.2.2.1; have c0 := hst.cell 0; have c1 := hst.cell 1; have c2 := hst.cell 2; have c3 := hst.cell 3; have c4 := hst.cell 4; have c5 := hst.cell 5; have c6 := hst.cell 6; have c7 := hst.cell 7; have c8 := hst.cell 8; clear hst) | fail))
              all_goals
                by_cases heq : headBytes (numsOf b) (entsAt b k) = s.take 252
                · have hq : (headBytes (numsOf b) (entsAt b k) == s.take 252) = true := by rw [heq]; simp
                  have HF : Hid (getHead s = some (numsOf b, entsAt b k, num b 252 4)) := by unfold Hid; rw [HE2.out, if_pos ⟨HC.out, heq⟩]
                  clear heq
                  have r1 := cell_of_row _ _ 1 _ _ _ HS.out.2.2.2.2
                  have rf1 := free_of_row HS.out.2.2.2.2 1
                  simp only [hq, Bool.not_true]
                  go_upto_region 14 with fail
                  obtain ⟨A3, c3', hv3, -⟩ := HS.out.2.2.1.reads
                  subst hv3
                  have hst := HS.out.setR 252
                  clear HS hne r1 rf1 c0 c1 c2 c3 c4 c5 c6 c7 c8
                  have HS := Lib.hid hst.drew
                  have c0 := hst.cell 0
                  have f0 := hst.free 0
                  have c1 := hst.cell 1
                  have f1 := hst.free 1
                  have c2 := hst.cell 2
                  have f2 := hst.free 2
                  have c3 := hst.cell 3
                  have f3 := hst.free 3
                  have c4 := hst.cell 4
                  have f4 := hst.free 4
                  have c5 := hst.cell 5
                  have f5 := hst.free 5
                  have c6 := hst.cell 6
                  have f6 := hst.free 6
                  have c7 := hst.cell 7
                  have f7 := hst.free 7
                  have c8 := hst.cell 8
                  have f8 := hst.free 8
                  have hne : w.heap.size < w'.heap.size := (by simpa [World.setCell] using lt_of_block hst.2.2.2.1)
                  clear hst
                  go_region_law ((first | (refine step_get HS.out HL.out _ ?_ ?_ ?_ ?_ (by rfl) _ _ (by rfl) (by rfl) (by rfl) ?_; decide; decide; decide; decide; intro w' hst; clear HS c0 f0 c1 f1 c2 f2 c3 f3 c4 f4 c5 f5 c6 f6 c7 f7 c8 f8 hne; have HS := Lib.hid hst; have c0 := hst.cell 0; have f0 := hst.free 0; have c1 := hst.cell 1; have f1 := hst.free 1; have c2 := hst.cell 2; have f2 := hst.free 2; have c3 := hst.cell 3; have f3 := hst.free 3; have c4 := hst.cell 4; have f4 := hst.free 4; have c5 := hst.cell 5; have f5 := hst.free 5; have c6 := hst.cell 6; have f6 := hst.free 6; have c7 := hst.cell 7; have f7 := hst.free 7; have c8 := hst.cell 8; have f8 := hst.free 8; have hne : w.heap.size < w'.heap.size := lt_of_block hst.2.2.2.1; clear hst) | fail))
                  all_goals
                    go_wp2
                    have hst9 := (((((((((HS.out.set 0 (.int .i64 (num b 4 1))).set 1 (.int .i64 (num b 5 2))).set 2 (.int .i64 (num b 7 3))).set 3 (.int .i64 (num b 10 6))).set 4 (.int .i64 (num b 16 2))).set 5 (.int .i64 (num b 18 6))).set 6 (.int .i64 (num b 24 6))).set 7 (.int .i64 (num b 30 6))).set 8 (.slice A3 (entsAt b k).length c3')).at' (C' := #[.int .i64 (num b 4 1), .int .i64 (num b 5 2), .int .i64 (num b 7 3), .int .i64 (num b 10 6), .int .i64 (num b 16 2), .int .i64 (num b 18 6), .int .i64 (num b 24 6), .int .i64 (num b 30 6), .slice A3 (entsAt b k).length c3']) (by simp only [List.setIfInBounds_toArray, List.set_cons_zero, List.set_cons_succ]) rfl rfl
                    refine (fun (hk : ∀ W, GetSt w W b #[.int .i64 (num b 4 1), .int .i64 (num b 5 2), .int .i64 (num b 7 3), .int .i64 (num b 10 6), .int .i64 (num b 16 2), .int .i64 (num b 18 6), .int .i64 (num b 24 6), .int .i64 (num b 30 6), .slice A3 (entsAt b k).length c3'] (252 + 4) (.slice A3 (entsAt b k).length c3') (entsAt b k) → bodyPost Try.prog Try.f30 _ Exit.ret _ W) => hk _ hst9) ?_
                    clear hst9
                    intro W hst
                    have HW := Lib.hid hst
                    have d0 := hst.cell 0
                    have d1 := hst.cell 1
                    have d2 := hst.cell 2
                    have d3 := hst.cell 3
                    have d4 := hst.cell 4
                    have d5 := hst.cell 5
                    have d6 := hst.cell 6
                    have d7 := hst.cell 7
                    have d8 := hst.cell 8
                    clear hst
                    refine bodyPost_ret (v := .tuple #[.agg #[.int .i64 (num b 4 1), .int .i64 (num b 5 2), .int .i64 (num b 7 3), .int .i64 (num b 10 6), .int .i64 (num b 16 2), .int .i64 (num b 18 6), .int .i64 (num b 24 6), .int .i64 (num b 30 6), .slice A3 (entsAt b k).length c3'], .int .i64 (num b 252 4), .bool true]) (by simp [results, Try.results30, go_sem, d0, d1, d2, d3, d4, d5, d6, d7, d8]) rfl ⟨HW.out.1, .inr ⟨numsOf b, entsAt b k, num b 252 4, .slice A3 (entsAt b k).length c3', HF.out, HW.out.2.2.1.mono (by omega), rfl⟩⟩
                · have hq : (headBytes (numsOf b) (entsAt b k) == s.take 252) = false := by simpa using heq
                  have HN : Hid (getHead s = none) := by unfold Hid; rw [HE2.out, if_neg (fun hh => heq hh.2)]
                  clear heq
                  simp only [hq, Bool.not_false]
                  have f0 := HS.out.free 0
                  have f1 := HS.out.free 1
                  have f2 := HS.out.free 2
                  have f3 := HS.out.free 3
                  have f4 := HS.out.free 4
                  have f5 := HS.out.free 5
                  have f6 := HS.out.free 6
                  have f7 := HS.out.free 7
                  have f8 := HS.out.free 8
                  go_wp2
                  have hst9 := (((((((((HS.out.set 0 (.int .i64 0)).set 1 (.int .i64 0)).set 2 (.int .i64 0)).set 3 (.int .i64 0)).set 4 (.int .i64 0)).set 5 (.int .i64 0)).set 6 (.int .i64 0)).set 7 (.int .i64 0)).set 8 (.slice none 0 0)).at' (C' := #[.int .i64 0, .int .i64 0, .int .i64 0, .int .i64 0, .int .i64 0, .int .i64 0, .int .i64 0, .int .i64 0, .slice none 0 0]) (by simp only [List.setIfInBounds_toArray, List.set_cons_zero, List.set_cons_succ]) rfl rfl
                  refine (fun (hk : ∀ W, GetSt w W b #[.int .i64 0, .int .i64 0, .int .i64 0, .int .i64 0, .int .i64 0, .int .i64 0, .int .i64 0, .int .i64 0, .slice none 0 0] (37 + 4 * (k : Int)) v (entsAt b k) → bodyPost Try.prog Try.f30 _ Exit.ret _ W) => hk _ hst9) ?_
                  clear hst9
                  intro W hst
                  have HW := Lib.hid hst
                  have d0 := hst.cell 0
                  have d1 := hst.cell 1
                  have d2 := hst.cell 2
                  have d3 := hst.cell 3
                  have d4 := hst.cell 4
                  have d5 := hst.cell 5
                  have d6 := hst.cell 6
                  have d7 := hst.cell 7
                  have d8 := hst.cell 8
                  clear hst
                  refine bodyPost_ret (v := .tuple #[.agg #[.int .i64 0, .int .i64 0, .int .i64 0, .int .i64 0, .int .i64 0, .int .i64 0, .int .i64 0, .int .i64 0, .slice none 0 0], .int .i64 0, .bool false]) (by simp [results, Try.results30, go_sem, d0, d1, d2, d3, d4, d5, d6, d7, d8]) rfl ⟨HW.out.1, .inl ⟨HN.out, rfl⟩⟩
end
end Go.Proofs.Ytjoplgdcpihmaaa
