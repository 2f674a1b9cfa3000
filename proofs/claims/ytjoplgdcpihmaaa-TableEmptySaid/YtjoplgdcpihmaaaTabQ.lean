/- The law TableEmpty: its walk. -/
import Derived.Test.YtjoplgdcpihmaaaTabP
import Derived.Test.YtjoplgdcpihmaaaHSt
import Derived.Test.YtjoplgdcpihmaaaPlain6
namespace Go.Proofs.Ytjoplgdcpihmaaa
open Go.RowKit
theorem HSt_gList {W : World} {base lb c k : Nat} (h : EH.Own W base (.slice (some ⟨lb, 0, none⟩) 16 c) (gList k)) : HSt W base (.slice (some ⟨lb, 0, none⟩) (gList k).length c) (gList k) := by
  refine ⟨by rw [gList_len]; exact h, fun x hx => ?_, fun x hx a e => ?_, fun i j x y a b _ hx _ e => ?_⟩
  · unfold gList at hx
    obtain ⟨i, -, rfl⟩ := List.mem_map.1 hx
    exact El.Own.nil _ _
  · unfold gList at hx
    obtain ⟨i, -, rfl⟩ := List.mem_map.1 hx
    cases e
  · have hx := List.mem_of_getElem? hx
    unfold gList at hx
    obtain ⟨i, -, rfl⟩ := List.mem_map.1 hx
    cases e
theorem El.Reads.take {α : Type} {E : El α} {w : World} {A : Option Addr} {n c : Nat} {l : List α} (h : E.Reads w (.slice A n c) l) (m : Nat) (hm : m ≤ n) : E.Reads w (.slice A m c) (l.take m) := by
  obtain ⟨A', c', hv, hc, h⟩ := h
  injection hv with h1 h2 h3
  subst h1 h2 h3
  have hl : (l.take m).length = m := by rw [List.length_take]; omega
  refine ⟨A, c, by rw [hl], by omega, fun h0 => ?_⟩
  obtain ⟨b, o, hA, hb, hcell⟩ := h (by omega)
  refine ⟨b, o, hA, hb, fun j u hu => hcell j u ?_⟩
  have e : E.cells l = E.cells (l.take m) ++ E.cells (l.drop m) := by rw [← E.cells_append, List.take_append_drop]
  rw [e, List.getElem?_append_left (List.getElem?_eq_some_iff.1 hu).1]
  exact hu
theorem gSet_len (x : HM) : ((gList 16).set 5 x).length = 16 := by rw [List.length_set, gList_len]
theorem gSet_short (x : HM) (hx : x.d.segs.length ≤ 1) : ∀ h ∈ (gList 16).set 5 x, h.d.segs.length ≤ 140737488351232 := fun h hh => by
  rcases List.mem_or_eq_of_mem_set hh with hm | rfl
  · unfold gList at hm
    obtain ⟨i, -, rfl⟩ := List.mem_map.1 hm
    exact Nat.zero_le _
  · omega
theorem gSet_bad {n : Int} (x : HM) (hx : hdB 65536 x.d = false) : tablePut n (((gList 16).set 5 x).map (·.d)) = none :=
  put_bad (bad_house (k := 5) (d := x.d) (by rw [List.getElem?_map, List.getElem?_set_self (by rw [gList_len]; decide)]; rfl) hx)
theorem bad_gen {g : Int} (h : 65535 < g) : hdB 65536 (gH g).d = false := by
  rw [Bool.eq_false_iff]; intro hh
  have := (hd_bd hh).2.1
  simp only [gH] at this; omega
theorem bad_st {d : HD} (h : 2 < d.st) : hdB 65536 d = false := by
  rw [Bool.eq_false_iff]; intro hh
  have := (hd_bd hh).1
  omega
theorem bad_zero {g : Int} {x : Lim} {l : List Int} (h : l.length ≠ 0 ∨ limZ x = false) : hdB 65536 ⟨0, g, x, l⟩ = false := by
  rw [Bool.eq_false_iff]; intro hh
  unfold hdB houseB at hh
  simp only [Bool.and_eq_true, ↓reduceIte, beq_iff_eq] at hh
  rcases h with h | h
  · exact h hh.2.2.1
  · rw [h] at hh; cases hh.2.2.2
theorem gLen (k : Nat) : ((gList k).map (·.d)).length = 16 := by rw [List.length_map, gList_len]
section
attribute [local go_sem ↓] Go.wp_at_zero Go.wp_at_succ
set_option maxRecDepth 100000 in
set_option maxHeartbeats 4000000 in
theorem tableEmpty_walk (num how v : Int) (w : World) (c0 : -9223372036854775808 ≤ num) (c1 : num ≤ 9223372036854775807) (a0 : -9223372036854775808 ≤ how) (a1 : how ≤ 9223372036854775807) (b0 : -9223372036854775808 ≤ v) (b1 : v ≤ 9223372036854775807) :
    Calls Try.prog 10 #[.int .i64 num, .int .i64 how, .int .i64 v] w fun e w' => e = .returned (.bool true) ∧ Below w.heap.size w w' := by
  have hj := placeOf_bd how 6 (by decide)
  have hk := placeOf_bd v 1000 (by decide)
  have hn := placeOf_bd num 1099511627776 (by decide)
  have PJ := Lib.hid (place_any how 6)
  have PV := Lib.hid (place_any v 1000)
  have PN := Lib.hid (place_any num 1099511627776)
  generalize placeOf how 6 = j at *
  generalize placeOf v 1000 = k0 at *
  generalize placeOf num 1099511627776 = n0 at *
  obtain ⟨t, ht⟩ := put_yes (num := n0) (inB_true (by omega) (by omega)) gList_ok
  have HT := Lib.hid ht
  have hl := tablePut_len ht
  have HG := Lib.hid (table_back ht)
  clear ht
  obtain ⟨C, hmk, hown⟩ := El.mk_row EH ⟨hd0, none, 0⟩ rfl 16 (by decide) (by decide) w.heap.size w (Nat.le_refl _)
  have hmk' : (Instr.makeSlice 46 (.int .i64 16) (.int .i64 16)).run Try.prog w = .ok (.slice (some ⟨w.heap.size, 0, none⟩) 16 16) (w.alloc (.cells C 61)) := hmk
  have HB := Lib.hid ((Below.refl w.heap.size w).alloc (Nat.le_refl _) (.cells C 61))
  have HO : Hid (EH.Own (w.alloc (.cells C 61)) w.heap.size (.slice (some ⟨w.heap.size, 0, none⟩) 16 16) (gList 0)) := gList_zero ▸ hown
  clear hmk hown
  go_enter Try.func10, Try.ntmps10
  go_wp2_with fail
  refine (PV.out _ b0 b1 (by decide) (by decide)).mono ?_
  rintro e w1 ⟨rfl, rfl⟩
  go_wp2_with fail
  clear hmk'
  generalize w.alloc (.cells C 61) = W1 at *
  go_loopw [9] (fun i wr => ∃ k : Nat, k ≤ 16 ∧ i = .int .i64 k ∧ EH.Own wr w.heap.size (.slice (some ⟨w.heap.size, 0, none⟩) 16 16) (gList k) ∧ Below w.heap.size w wr) (fun i _ => 16 - (intOf i).toNat)
  case atStart => exact ⟨0, by omega, rfl, HO.out, HB.out⟩
  clear HO HB
  case round =>
    obtain ⟨k, hk16, rfl, hO, hb⟩ := hrel
    have HO := Lib.hid hO
    have HB := Lib.hid hb
    clear hO hb
    by_cases hlt : k < 16
    · have c1 := HO.out.atAddr (gList_len k).symm k _ (gList_at k k hlt) 1 _ rfl
      simp only [EH] at c1
      rw [if_neg (show ¬ k < k by omega)] at c1
      have HLT := Lib.hid hlt
      go_wp2
      have HO2 : Hid (EH.Own (wr.setCell ⟨w.heap.size, k * 10 + 1, none⟩ (.int .i64 (65535 - (k : Int)))) w.heap.size (.slice (some ⟨w.heap.size, 0, none⟩) 16 16) (gList (k + 1))) := by
        have h0 : EH.Own wr w.heap.size (.slice (some ⟨w.heap.size, 0, none⟩) (gList k).length 16) (gList k) := by rw [gList_len]; exact HO.out
        have h1 := h0.store k 1 _ (gH (65535 - (k : Int))) (.int .i64 (65535 - (k : Int))) (gList_at k k HLT.out) (by decide) (by rw [if_neg (by omega)]; rfl)
        rw [← gList_succ k HLT.out, gList_len] at h1
        exact h1
      have HB2 := Lib.hid (HB.out.setCell (p := ⟨w.heap.size, k * 10 + 1, none⟩) (by exact Nat.le_refl _) (.int .i64 (65535 - (k : Int))))
      go_roundw
      case rel => exact ⟨k + 1, by omega, by go_num, HO2.out, HB2.out⟩
      case measure => simp only [intOf]; omega
    · obtain rfl : k = 16 := by omega
      clear hlt hk16
      go_wp2_with fail
      refine (PN.out _ c0 c1 (by decide) (by decide)).mono ?_
      rintro e w2 ⟨rfl, rfl⟩
      go_wp2_with fail
      refine (tput_val n0 _ (gList 16) _ (gList_reads HO.out.reads) (by rw [gList_len]; decide) (fun h hh => by unfold gList at hh; obtain ⟨i, -, rfl⟩ := List.mem_map.1 hh; exact Nat.zero_le _) (some t) HT.out).mono ?_
      rintro e w3 ⟨rfl, hb⟩
      have HB3 := Lib.hid (HB.out.trans (hb.mono HB.out.size))
      have HO3 := Lib.hid (HO.out.below hb)
      clear hb HO HB
      unfold putAns
      simp only [Option.getD_some, Option.isSome_some]
      go_wp2_with fail
      refine (tget_any t _ (by omega)).mono ?_
      rintro e w4 ⟨hb, h⟩
      have HB4 := Lib.hid (HB3.out.trans (hb.mono HB3.out.size))
      have HO := Lib.hid (HO3.out.below hb)
      clear hb HO3 HB3
      rw [HG.out] at h
      rcases h with ⟨n, L, lb2, l, h1, rfl, hL, hL16, -, hRR⟩ | ⟨h1, -⟩
      · injection h1 with h1
        injection h1 with h1 h2
        subst h1
        have hx3 : ∃ x, l[3]? = some x ∧ x.d.gn = 65532 := by
          have e1 := congrArg (fun L : List HD => L[3]?.map (·.gn)) (hL.trans h2.symm)
          simp only [List.getElem?_map] at e1
          rw [gList_at 16 3 (by decide)] at e1
          cases hx : l[3]? with
          | none => rw [hx] at e1; cases e1
          | some x => rw [hx] at e1; exact ⟨x, rfl, by simpa [gH] using e1⟩
        obtain ⟨x3, hx3, hg3⟩ := hx3
        obtain ⟨b, o, c, hv, -, hc, -⟩ := hRR.at 3 x3 hx3
        simp only [Value.slice.injEq, Option.some.injEq, Addr.mk.injEq, and_true] at hv
        obtain ⟨⟨rfl, rfl⟩, -, rfl⟩ := hv
        have e31 := hc 1 _ rfl
        rw [hg3] at e31
        simp only [Nat.reduceMul, Nat.reduceAdd, Nat.zero_add] at e31
        clear hc hRR hL h2 hL16 hx3 hg3 HG HT hl
        go_upto_region 12 with fail
        go_wp2_with fail
        refine (PJ.out _ a0 a1 (by decide) (by decide)).mono ?_
        rintro e w5 ⟨rfl, rfl⟩
        clear PJ PN PV e31
        have hj' : j = 0 ∨ j = 1 ∨ j = 2 ∨ j = 3 ∨ j = 4 ∨ j = 5 := by omega
        clear hj a0 a1 b0 b1 c0 c1
        rcases hj' with rfl | rfl | rfl | rfl | rfl | rfl
        · have c5 := HO.out.atAddr (gList_len 16).symm 5 _ (gList_at 16 5 (by decide)) 1 _ rfl
          simp only [EH, Nat.reduceMul, Nat.reduceAdd] at c5
          go_upto_region 24 with fail
          have hS := (HSt_gList HO.out).field 5 _ (gList_at 16 5 (by decide)) 1 (by decide) (65535 + (1 + k0))
          rw [gList_len] at hS
          have HR5 : Hid (HReads (w4.setCell ⟨w.heap.size, 51, none⟩ (.int .i64 (65535 + (1 + k0)))) (.slice (some ⟨w.heap.size, 0, none⟩) 16 16) ((gList 16).set 5 ⟨setF (gH 65530).d 1 (65535 + (1 + k0)), none, 0⟩)) := hS.reads
          have HB5 := Lib.hid (HB4.out.setCell (p := ⟨w.heap.size, 51, none⟩) (Nat.le_refl _) (.int .i64 (65535 + (1 + k0))))
          have HN5 : Hid (tablePut n0 (((gList 16).set 5 ⟨setF (gH 65530).d 1 (65535 + (1 + k0)), none, 0⟩).map (·.d)) = none) := gSet_bad _ (bad_gen (by omega))
          have HL5 : Hid (((gList 16).set 5 ⟨setF (gH 65530).d 1 (65535 + (1 + k0)), none, 0⟩).length ≤ 100000) := by unfold Hid; rw [gSet_len]; decide
          have HS5 : Hid (∀ h ∈ ((gList 16).set 5 ⟨setF (gH 65530).d 1 (65535 + (1 + k0)), none, 0⟩), h.d.segs.length ≤ 140737488351232) := gSet_short _ (Nat.zero_le _)
          clear hS c5
          generalize (w4.setCell ⟨w.heap.size, 51, none⟩ (.int .i64 (65535 + (1 + k0)))) = W5 at *
          obtain ⟨L5, hL5⟩ : ∃ L5, L5 = ((gList 16).set 5 ⟨setF (gH 65530).d 1 (65535 + (1 + k0)), none, 0⟩) := ⟨_, rfl⟩
          rw [← hL5] at HR5 HN5 HL5 HS5
          clear hL5 HO HB4
          go_wp2_with fail
          refine (tput_val _ _ _ _ HR5.out HL5.out HS5.out none HN5.out).mono ?_
          rintro e w6 ⟨rfl, hb⟩
          have HB6 := Lib.hid (HB5.out.trans (hb.mono HB5.out.size))
          clear hb HR5 HN5 HL5 HS5 HB5
          unfold putAns
          obtain ⟨C2, hmk2, hown2⟩ := El.mk_row EH ⟨hd0, none, 0⟩ rfl 16 (by decide) (by decide) w6.heap.size w6 (Nat.le_refl _)
          have hmk2' : (Instr.makeSlice 46 (.int .i64 16) (.int .i64 16)).run Try.prog w6 = .ok (.slice (some ⟨w6.heap.size, 0, none⟩) 16 16) (w6.alloc (.cells C2 61)) := hmk2
          have HR7 : Hid (HReads (w6.alloc (.cells C2 61)) (.slice (some ⟨w6.heap.size, 0, none⟩) 16 16) (List.replicate 16 ⟨hd0, none, 0⟩)) := zeros_reads hown2.reads
          have HB7 := Lib.hid (HB6.out.alloc HB6.out.size (.cells C2 61))
          clear hmk2 hown2
          go_wp2_with fail
          clear hmk2'
          refine (tput_val _ _ _ _ HR7.out (by decide) (fun h hh => by obtain ⟨-, rfl⟩ := List.mem_replicate.1 hh; decide) none (put_num (by rw [inB_false]; omega))).mono ?_
          rintro e w8 ⟨rfl, hb⟩
          have HB8 := Lib.hid (HB7.out.trans (hb.mono HB7.out.size))
          clear hb
          unfold putAns
          go_wp2_with fail
          refine (awake6_any _).mono ?_
          rintro e w9 ⟨rfl, hb⟩
          have HB9 := Lib.hid (HB8.out.trans (hb.mono HB8.out.size))
          clear hb
          go_wp2_with fail
          go_ret
          exact ⟨rfl, HB9.out⟩
        · have c5 := HO.out.atAddr (gList_len 16).symm 5 _ (gList_at 16 5 (by decide)) 0 _ rfl
          simp only [EH, Nat.reduceMul, Nat.reduceAdd] at c5
          go_upto_region 24 with fail
          have hS := (HSt_gList HO.out).field 5 _ (gList_at 16 5 (by decide)) 0 (by decide) (2 + (1 + k0))
          rw [gList_len] at hS
          have HR5 : Hid (HReads (w4.setCell ⟨w.heap.size, 50, none⟩ (.int .i64 (2 + (1 + k0)))) (.slice (some ⟨w.heap.size, 0, none⟩) 16 16) ((gList 16).set 5 ⟨setF (gH 65530).d 0 (2 + (1 + k0)), none, 0⟩)) := hS.reads
          have HB5 := Lib.hid (HB4.out.setCell (p := ⟨w.heap.size, 50, none⟩) (Nat.le_refl _) (.int .i64 (2 + (1 + k0))))
          have HN5 : Hid (tablePut n0 (((gList 16).set 5 ⟨setF (gH 65530).d 0 (2 + (1 + k0)), none, 0⟩).map (·.d)) = none) := gSet_bad _ (bad_st (by show 2 < 2 + (1 + k0); omega))
          have HL5 : Hid (((gList 16).set 5 ⟨setF (gH 65530).d 0 (2 + (1 + k0)), none, 0⟩).length ≤ 100000) := by unfold Hid; rw [gSet_len]; decide
          have HS5 : Hid (∀ h ∈ ((gList 16).set 5 ⟨setF (gH 65530).d 0 (2 + (1 + k0)), none, 0⟩), h.d.segs.length ≤ 140737488351232) := gSet_short _ (Nat.zero_le _)
          clear hS c5
          generalize (w4.setCell ⟨w.heap.size, 50, none⟩ (.int .i64 (2 + (1 + k0)))) = W5 at *
          obtain ⟨L5, hL5⟩ : ∃ L5, L5 = ((gList 16).set 5 ⟨setF (gH 65530).d 0 (2 + (1 + k0)), none, 0⟩) := ⟨_, rfl⟩
          rw [← hL5] at HR5 HN5 HL5 HS5
          clear hL5 HO HB4
          go_wp2_with fail
          refine (tput_val _ _ _ _ HR5.out HL5.out HS5.out none HN5.out).mono ?_
          rintro e w6 ⟨rfl, hb⟩
          have HB6 := Lib.hid (HB5.out.trans (hb.mono HB5.out.size))
          clear hb HR5 HN5 HL5 HS5 HB5
          unfold putAns
          obtain ⟨C2, hmk2, hown2⟩ := El.mk_row EH ⟨hd0, none, 0⟩ rfl 16 (by decide) (by decide) w6.heap.size w6 (Nat.le_refl _)
          have hmk2' : (Instr.makeSlice 46 (.int .i64 16) (.int .i64 16)).run Try.prog w6 = .ok (.slice (some ⟨w6.heap.size, 0, none⟩) 16 16) (w6.alloc (.cells C2 61)) := hmk2
          have HR7 : Hid (HReads (w6.alloc (.cells C2 61)) (.slice (some ⟨w6.heap.size, 0, none⟩) 16 16) (List.replicate 16 ⟨hd0, none, 0⟩)) := zeros_reads hown2.reads
          have HB7 := Lib.hid (HB6.out.alloc HB6.out.size (.cells C2 61))
          clear hmk2 hown2
          go_wp2_with fail
          clear hmk2'
          refine (tput_val _ _ _ _ HR7.out (by decide) (fun h hh => by obtain ⟨-, rfl⟩ := List.mem_replicate.1 hh; decide) none (put_num (by rw [inB_false]; omega))).mono ?_
          rintro e w8 ⟨rfl, hb⟩
          have HB8 := Lib.hid (HB7.out.trans (hb.mono HB7.out.size))
          clear hb
          unfold putAns
          go_wp2_with fail
          refine (awake6_any _).mono ?_
          rintro e w9 ⟨rfl, hb⟩
          have HB9 := Lib.hid (HB8.out.trans (hb.mono HB8.out.size))
          clear hb
          go_wp2_with fail
          go_ret
          exact ⟨rfl, HB9.out⟩
        · have hO5 : EH.Own (w4.alloc (.cells #[.int .i64 (1 + k0)] 3)) w.heap.size (.slice (some ⟨w.heap.size, 0, none⟩) 16 16) (gList 16) := HO.out.alloc _
          have c5 := hO5.atAddr (gList_len 16).symm 5 _ (gList_at 16 5 (by decide)) 9 _ rfl
          simp only [EH, Nat.reduceMul, Nat.reduceAdd] at c5
          go_upto_region 24 with fail
          have hI : EI.Own (w4.alloc (.cells #[.int .i64 (1 + k0)] 3)) w.heap.size (.slice (some ⟨w4.heap.size, 0, none⟩) 1 1) [1 + k0] := World.ownsRow_lit (base := w.heap.size) (e := 3) (size := 1) w4 #[.int .i64 (1 + k0)] 1 HB4.out.size (by decide) rfl
          have hS := (HSt_gList HO.out).segset 5 _ (gList_at 16 5 (by decide)) (row := none) (El.grown_of_below ((Below.refl w4.heap.size w4).alloc (Nat.le_refl _) (.cells #[.int .i64 (1 + k0)] 3)) none) rfl _ 1 [1 + k0] hI (.inr ⟨_, rfl, Nat.le_refl _⟩)
          rw [gList_len] at hS
          have HR5 : Hid (HReads ((w4.alloc (.cells #[.int .i64 (1 + k0)] 3)).setCell ⟨w.heap.size, 59, none⟩ (.slice (some ⟨w4.heap.size, 0, none⟩) 1 1)) (.slice (some ⟨w.heap.size, 0, none⟩) 16 16) ((gList 16).set 5 ⟨⟨0, 65530, ⟨0, 0, 0, 0, 0, 0, 0⟩, [1 + k0]⟩, some ⟨w4.heap.size, 0, none⟩, 1⟩)) := hS.reads
          have HB5 := Lib.hid ((HB4.out.alloc HB4.out.size (.cells #[.int .i64 (1 + k0)] 3)).setCell (p := ⟨w.heap.size, 59, none⟩) (Nat.le_refl _) (.slice (some ⟨w4.heap.size, 0, none⟩) 1 1))
          have HN5 : Hid (tablePut n0 (((gList 16).set 5 ⟨⟨0, 65530, ⟨0, 0, 0, 0, 0, 0, 0⟩, [1 + k0]⟩, some ⟨w4.heap.size, 0, none⟩, 1⟩).map (·.d)) = none) := gSet_bad _ (bad_zero (.inl (by simp)))
          have HL5 : Hid (((gList 16).set 5 ⟨⟨0, 65530, ⟨0, 0, 0, 0, 0, 0, 0⟩, [1 + k0]⟩, some ⟨w4.heap.size, 0, none⟩, 1⟩).length ≤ 100000) := by unfold Hid; rw [gSet_len]; decide
          have HS5 : Hid (∀ h ∈ ((gList 16).set 5 ⟨⟨0, 65530, ⟨0, 0, 0, 0, 0, 0, 0⟩, [1 + k0]⟩, some ⟨w4.heap.size, 0, none⟩, 1⟩), h.d.segs.length ≤ 140737488351232) := gSet_short _ (Nat.le_refl _)
          clear hS c5 hI hO5
          generalize (w4.alloc (.cells #[.int .i64 (1 + k0)] 3)).setCell ⟨w.heap.size, 59, none⟩ (.slice (some ⟨w4.heap.size, 0, none⟩) 1 1) = W5 at *
          obtain ⟨L5, hL5⟩ : ∃ L5, L5 = ((gList 16).set 5 ⟨⟨0, 65530, ⟨0, 0, 0, 0, 0, 0, 0⟩, [1 + k0]⟩, some ⟨w4.heap.size, 0, none⟩, 1⟩) := ⟨_, rfl⟩
          rw [← hL5] at HR5 HN5 HL5 HS5
          clear hL5 HO HB4
          go_wp2_with fail
          refine (tput_val _ _ _ _ HR5.out HL5.out HS5.out none HN5.out).mono ?_
          rintro e w6 ⟨rfl, hb⟩
          have HB6 := Lib.hid (HB5.out.trans (hb.mono HB5.out.size))
          clear hb HR5 HN5 HL5 HS5 HB5
          unfold putAns
          obtain ⟨C2, hmk2, hown2⟩ := El.mk_row EH ⟨hd0, none, 0⟩ rfl 16 (by decide) (by decide) w6.heap.size w6 (Nat.le_refl _)
          have hmk2' : (Instr.makeSlice 46 (.int .i64 16) (.int .i64 16)).run Try.prog w6 = .ok (.slice (some ⟨w6.heap.size, 0, none⟩) 16 16) (w6.alloc (.cells C2 61)) := hmk2
          have HR7 : Hid (HReads (w6.alloc (.cells C2 61)) (.slice (some ⟨w6.heap.size, 0, none⟩) 16 16) (List.replicate 16 ⟨hd0, none, 0⟩)) := zeros_reads hown2.reads
          have HB7 := Lib.hid (HB6.out.alloc HB6.out.size (.cells C2 61))
          clear hmk2 hown2
          go_wp2_with fail
          clear hmk2'
          refine (tput_val _ _ _ _ HR7.out (by decide) (fun h hh => by obtain ⟨-, rfl⟩ := List.mem_replicate.1 hh; decide) none (put_num (by rw [inB_false]; omega))).mono ?_
          rintro e w8 ⟨rfl, hb⟩
          have HB8 := Lib.hid (HB7.out.trans (hb.mono HB7.out.size))
          clear hb
          unfold putAns
          go_wp2_with fail
          refine (awake6_any _).mono ?_
          rintro e w9 ⟨rfl, hb⟩
          have HB9 := Lib.hid (HB8.out.trans (hb.mono HB8.out.size))
          clear hb
          go_wp2_with fail
          go_ret
          exact ⟨rfl, HB9.out⟩
        · have c5 := HO.out.atAddr (gList_len 16).symm 5 _ (gList_at 16 5 (by decide)) 7 _ rfl
          simp only [EH, Nat.reduceMul, Nat.reduceAdd] at c5
          go_upto_region 24 with fail
          have hS := (HSt_gList HO.out).field 5 _ (gList_at 16 5 (by decide)) 7 (by decide) (1 + k0)
          rw [gList_len] at hS
          have HR5 : Hid (HReads (w4.setCell ⟨w.heap.size, 57, none⟩ (.int .i64 (1 + k0))) (.slice (some ⟨w.heap.size, 0, none⟩) 16 16) ((gList 16).set 5 ⟨setF (gH 65530).d 7 (1 + k0), none, 0⟩)) := hS.reads
          have HB5 := Lib.hid (HB4.out.setCell (p := ⟨w.heap.size, 57, none⟩) (Nat.le_refl _) (.int .i64 (1 + k0)))
          have HN5 : Hid (tablePut n0 (((gList 16).set 5 ⟨setF (gH 65530).d 7 (1 + k0), none, 0⟩).map (·.d)) = none) := gSet_bad _ (bad_zero (.inr (by unfold limZ; simp [gH]; omega)))
          have HL5 : Hid (((gList 16).set 5 ⟨setF (gH 65530).d 7 (1 + k0), none, 0⟩).length ≤ 100000) := by unfold Hid; rw [gSet_len]; decide
          have HS5 : Hid (∀ h ∈ ((gList 16).set 5 ⟨setF (gH 65530).d 7 (1 + k0), none, 0⟩), h.d.segs.length ≤ 140737488351232) := gSet_short _ (Nat.zero_le _)
          clear hS c5
          generalize (w4.setCell ⟨w.heap.size, 57, none⟩ (.int .i64 (1 + k0))) = W5 at *
          obtain ⟨L5, hL5⟩ : ∃ L5, L5 = ((gList 16).set 5 ⟨setF (gH 65530).d 7 (1 + k0), none, 0⟩) := ⟨_, rfl⟩
          rw [← hL5] at HR5 HN5 HL5 HS5
          clear hL5 HO HB4
          go_wp2_with fail
          refine (tput_val _ _ _ _ HR5.out HL5.out HS5.out none HN5.out).mono ?_
          rintro e w6 ⟨rfl, hb⟩
          have HB6 := Lib.hid (HB5.out.trans (hb.mono HB5.out.size))
          clear hb HR5 HN5 HL5 HS5 HB5
          unfold putAns
          obtain ⟨C2, hmk2, hown2⟩ := El.mk_row EH ⟨hd0, none, 0⟩ rfl 16 (by decide) (by decide) w6.heap.size w6 (Nat.le_refl _)
          have hmk2' : (Instr.makeSlice 46 (.int .i64 16) (.int .i64 16)).run Try.prog w6 = .ok (.slice (some ⟨w6.heap.size, 0, none⟩) 16 16) (w6.alloc (.cells C2 61)) := hmk2
          have HR7 : Hid (HReads (w6.alloc (.cells C2 61)) (.slice (some ⟨w6.heap.size, 0, none⟩) 16 16) (List.replicate 16 ⟨hd0, none, 0⟩)) := zeros_reads hown2.reads
          have HB7 := Lib.hid (HB6.out.alloc HB6.out.size (.cells C2 61))
          clear hmk2 hown2
          go_wp2_with fail
          clear hmk2'
          refine (tput_val _ _ _ _ HR7.out (by decide) (fun h hh => by obtain ⟨-, rfl⟩ := List.mem_replicate.1 hh; decide) none (put_num (by rw [inB_false]; omega))).mono ?_
          rintro e w8 ⟨rfl, hb⟩
          have HB8 := Lib.hid (HB7.out.trans (hb.mono HB7.out.size))
          clear hb
          unfold putAns
          go_wp2_with fail
          refine (awake6_any _).mono ?_
          rintro e w9 ⟨rfl, hb⟩
          have HB9 := Lib.hid (HB8.out.trans (hb.mono HB8.out.size))
          clear hb
          go_wp2_with fail
          go_ret
          exact ⟨rfl, HB9.out⟩
        · have hm : (15 - (1 + k0) % 15).toNat ≤ 15 := by omega
          go_upto_region 24 with fail
          generalize hmm : (15 - (1 + k0) % 15).toNat = m at *
          clear hmm
          have hln : ((gList 16).take m).length = m := by rw [List.length_take, gList_len]; omega
          have HR5 : Hid (HReads w4 (.slice (some ⟨w.heap.size, 0, none⟩) m 16) ((gList 16).take m)) := ⟨El.Reads.take HO.out.reads m (by omega), fun x hx => (gList_reads HO.out.reads).2 x (List.mem_of_mem_take hx)⟩
          have HB5 := HB4
          have HN5 : Hid (tablePut n0 (((gList 16).take m).map (·.d)) = none) := put_bad (bad_many (by rw [List.length_map, hln]; omega))
          have HL5 : Hid (((gList 16).take m).length ≤ 100000) := by unfold Hid; rw [hln]; omega
          have HS5 : Hid (∀ h ∈ (gList 16).take m, h.d.segs.length ≤ 140737488351232) := fun h hh => by have hh := List.mem_of_mem_take hh; unfold gList at hh; obtain ⟨i, -, rfl⟩ := List.mem_map.1 hh; exact Nat.zero_le _
          obtain ⟨L5, hL5⟩ : ∃ L5, L5 = (gList 16).take m := ⟨_, rfl⟩
          rw [← hL5] at HR5 HN5 HL5 HS5
          clear hL5 HO HB4
          go_wp2_with fail
          refine (tput_val _ _ _ _ HR5.out HL5.out HS5.out none HN5.out).mono ?_
          rintro e w6 ⟨rfl, hb⟩
          have HB6 := Lib.hid (HB5.out.trans (hb.mono HB5.out.size))
          clear hb HR5 HN5 HL5 HS5 HB5
          unfold putAns
          obtain ⟨C2, hmk2, hown2⟩ := El.mk_row EH ⟨hd0, none, 0⟩ rfl 16 (by decide) (by decide) w6.heap.size w6 (Nat.le_refl _)
          have hmk2' : (Instr.makeSlice 46 (.int .i64 16) (.int .i64 16)).run Try.prog w6 = .ok (.slice (some ⟨w6.heap.size, 0, none⟩) 16 16) (w6.alloc (.cells C2 61)) := hmk2
          have HR7 : Hid (HReads (w6.alloc (.cells C2 61)) (.slice (some ⟨w6.heap.size, 0, none⟩) 16 16) (List.replicate 16 ⟨hd0, none, 0⟩)) := zeros_reads hown2.reads
          have HB7 := Lib.hid (HB6.out.alloc HB6.out.size (.cells C2 61))
          clear hmk2 hown2
          go_wp2_with fail
          clear hmk2'
          refine (tput_val _ _ _ _ HR7.out (by decide) (fun h hh => by obtain ⟨-, rfl⟩ := List.mem_replicate.1 hh; decide) none (put_num (by rw [inB_false]; omega))).mono ?_
          rintro e w8 ⟨rfl, hb⟩
          have HB8 := Lib.hid (HB7.out.trans (hb.mono HB7.out.size))
          clear hb
          unfold putAns
          go_wp2_with fail
          refine (awake6_any _).mono ?_
          rintro e w9 ⟨rfl, hb⟩
          have HB9 := Lib.hid (HB8.out.trans (hb.mono HB8.out.size))
          clear hb
          go_wp2_with fail
          go_ret
          exact ⟨rfl, HB9.out⟩
        · go_upto_region 24 with fail
          have HR5 : Hid (HReads w4 (.slice (some ⟨w.heap.size, 0, none⟩) 16 16) (gList 16)) := gList_reads HO.out.reads
          have HB5 := HB4
          have HN5 : Hid (tablePut (1099511627776 + (1 + k0)) ((gList 16).map (·.d)) = none) := put_num (by rw [inB_false]; omega)
          have HL5 : Hid ((gList 16).length ≤ 100000) := by unfold Hid; rw [gList_len]; decide
          have HS5 : Hid (∀ h ∈ gList 16, h.d.segs.length ≤ 140737488351232) := fun h hh => by unfold gList at hh; obtain ⟨i, -, rfl⟩ := List.mem_map.1 hh; exact Nat.zero_le _
          obtain ⟨L5, hL5⟩ : ∃ L5, L5 = gList 16 := ⟨_, rfl⟩
          rw [← hL5] at HR5 HN5 HL5 HS5
          clear hL5 HO HB4
          go_wp2_with fail
          refine (tput_val _ _ _ _ HR5.out HL5.out HS5.out none HN5.out).mono ?_
          rintro e w6 ⟨rfl, hb⟩
          have HB6 := Lib.hid (HB5.out.trans (hb.mono HB5.out.size))
          clear hb HR5 HN5 HL5 HS5 HB5
          unfold putAns
          obtain ⟨C2, hmk2, hown2⟩ := El.mk_row EH ⟨hd0, none, 0⟩ rfl 16 (by decide) (by decide) w6.heap.size w6 (Nat.le_refl _)
          have hmk2' : (Instr.makeSlice 46 (.int .i64 16) (.int .i64 16)).run Try.prog w6 = .ok (.slice (some ⟨w6.heap.size, 0, none⟩) 16 16) (w6.alloc (.cells C2 61)) := hmk2
          have HR7 : Hid (HReads (w6.alloc (.cells C2 61)) (.slice (some ⟨w6.heap.size, 0, none⟩) 16 16) (List.replicate 16 ⟨hd0, none, 0⟩)) := zeros_reads hown2.reads
          have HB7 := Lib.hid (HB6.out.alloc HB6.out.size (.cells C2 61))
          clear hmk2 hown2
          go_wp2_with fail
          clear hmk2'
          refine (tput_val _ _ _ _ HR7.out (by decide) (fun h hh => by obtain ⟨-, rfl⟩ := List.mem_replicate.1 hh; decide) none (put_num (by rw [inB_false]; omega))).mono ?_
          rintro e w8 ⟨rfl, hb⟩
          have HB8 := Lib.hid (HB7.out.trans (hb.mono HB7.out.size))
          clear hb
          unfold putAns
          go_wp2_with fail
          refine (awake6_any _).mono ?_
          rintro e w9 ⟨rfl, hb⟩
          have HB9 := Lib.hid (HB8.out.trans (hb.mono HB8.out.size))
          clear hb
          go_wp2_with fail
          go_ret
          exact ⟨rfl, HB9.out⟩
      · cases h1
end
end Go.Proofs.Ytjoplgdcpihmaaa
