/- The law TableNumbers: its walk. -/
import Derived.Test.YtjoplgdcpihmaaaMadeA
import Derived.Test.YtjoplgdcpihmaaaSameA
import Derived.Test.YtjoplgdcpihmaaaOpen
import Derived.BigRegion
namespace Go.Proofs.Ytjoplgdcpihmaaa
open Go.RowKit
theorem short_of {l : List HM} {many : Int} (h : tableB many (l.map (·.d)) = true) : ∀ x ∈ l, x.d.segs.length ≤ 40 := fun x hx => house_len (table_house h x.d (List.mem_map_of_mem hx))
section
attribute [local go_sem] bs_size bs_append bs_toList List.length_append
attribute [local go_sem ↓] Go.wp_at_zero Go.wp_at_succ
set_option maxRecDepth 100000 in
set_option maxHeartbeats 8000000 in
theorem tableNumbers_walk (v : Value) (L : List Int) (num bit which : Int) (w : World) (hr : EI.Reads w v L) (_hn : NilOk v) (hin : (∀ x ∈ L, inI x) ∧ L.length ≤ 9223372036854775807) (a0 : -9223372036854775808 ≤ num) (a1 : num ≤ 9223372036854775807) (b0 : -9223372036854775808 ≤ bit) (b1 : bit ≤ 9223372036854775807) (c0 : -9223372036854775808 ≤ which) (c1 : which ≤ 9223372036854775807) :
    Calls Try.prog 8 #[v, .int .i64 num, .int .i64 bit, .int .i64 which] w fun e w' => e = .returned (.bool true) ∧ Below w.heap.size w w' := by
  have PN := Lib.hid (place_any num 1099511627776)
  have PB := Lib.hid (place_any bit 16384)
  have hn := placeOf_bd num 1099511627776 (by decide)
  have hpb := placeOf_bd bit 16384 (by decide)
  generalize placeOf num 1099511627776 = n0 at *
  generalize placeOf bit 16384 = kb at *
  obtain ⟨t, ht⟩ := put_yes (num := n0) (inB_true (by omega) (by omega)) (madeK_ok L 16)
  have HP := Lib.hid ht
  have HTL := Lib.hid (tablePut_len ht)
  have HG := Lib.hid (table_back ht)
  obtain ⟨kq, rfl⟩ := Int.eq_ofNat_of_zero_le hpb.1
  have hq8 : kq / 8 < 2048 := by omega
  have HFL := Lib.hid (get_flip ht (kq / 8) hq8 (nth t (kq / 8) ^^^ bitB (kq % 8)) (flip_ne _ _ (Nat.mod_lt _ (by decide))))
  have HMO := Lib.hid (get_more ht)
  clear ht
  have HMD := Lib.hid (made_any v L w hr hin.1 hin.2)
  clear hr hin
  go_enter Try.func8, Try.ntmps8
  go_wp2_with fail
  refine HMD.out.mono ?_
  rintro e w1 ⟨hb, lb, l, rfl, hd, hln, hs⟩
  have HB1 := Lib.hid hb
  have HDD := Lib.hid hd
  have HLN := Lib.hid hln
  have HS1 := Lib.hid hs
  have HSH : Hid (∀ x ∈ l, x.d.segs.length ≤ 40) := short_of (many := 65536) (by rw [hd]; exact madeK_ok L 16)
  clear hb hd hln hs HMD
  go_wp2_with fail
  refine (PN.out _ a0 a1 (by decide) (by decide)).mono ?_
  rintro e w2 ⟨rfl, rfl⟩
  clear PN a0 a1
  go_wp2_with fail
  refine (tput_val n0 _ l _ HS1.out.reads (by rw [HLN.out]; decide) (fun h hh => by have := HSH.out h hh; omega) (some t) (by rw [HDD.out]; exact HP.out)).mono ?_
  rintro e w3 ⟨rfl, hb⟩
  have HB3 := Lib.hid (HB1.out.trans (hb.mono HB1.out.size))
  have HS3 := Lib.hid (HS1.out.below hb)
  clear hb HB1 HS1
  unfold putAns
  simp only [Option.getD_some, Option.isSome_some]
  go_wp2_with fail
  refine (tget_any t _ (by rw [HTL.out]; decide)).mono ?_
  rintro e w4 ⟨hb, h⟩
  have HB4 := Lib.hid (HB3.out.trans (hb.mono HB3.out.size))
  have HS4 := Lib.hid (HS3.out.below hb)
  clear hb HB3 HS3
  rw [HG.out] at h
  rcases h with ⟨n, L2, lb2, l2, h1, rfl, hL, hL16, hsh2, hRR⟩ | ⟨h1, -⟩
  rotate_left
  · cases h1
  injection h1 with h1
  injection h1 with h1 h2
  subst h1
  have HRR := Lib.hid hRR
  have HDE : Hid (l2.map (·.d) = l.map (·.d)) := by unfold Hid; rw [hL, ← h2, HDD.out]
  have HL2 := Lib.hid hL16
  have HSH2 := Lib.hid hsh2
  clear hRR hL h2 hL16 hsh2 HG
  go_wp2_with fail
  refine (tsame_any _ _ l2 l _ HRR.out HS4.out.reads HDE.out (by rw [HL2.out]; decide) (fun h hh => by have := HSH2.out h hh; omega)).mono ?_
  rintro e w5 ⟨rfl, hb⟩
  have HB5 := Lib.hid (HB4.out.trans (hb.mono HB4.out.size))
  have HS5 := Lib.hid (HS4.out.below hb)
  clear hb HB4 HS4 HRR HDE HL2 HSH2
  have htn := HTL.out
  have hcv : ∀ W : World, (convert 9 38 (.string (bs t))).run Try.prog W = .ok (.slice (some ⟨W.heap.size, 0, none⟩) 2048 (grownCap W 2048 0 5)) (Lib.bytesWorld W 5 (bs t)) := fun W => by
    have h1 := Lib.run_convert_string_bytes (P := Try.prog) W 9 38 5 (bs t) Try.underlying9 Try.underlying38 Try.underlying5
    rw [bs_size, HTL.out] at h1; exact h1
  go_upto_region 8 with fail
  clear hcv htn
  have hC9 : ∀ j, j < t.length → (Lib.bytesWorld w5 5 (bs t)).cell? ⟨w5.heap.size, j, none⟩ = some (.int .u8 (vB (nth t j))) := fun j hj => bytes_cell w5 5 t j hj
  have hF9 : ∀ j, j < t.length → (Lib.bytesWorld w5 5 (bs t)).frozen? ⟨w5.heap.size, j, none⟩ = false := fun j hj => bytes_free w5 5 t j hj
  have HB9 : Hid (Below w5.heap.size w5 (Lib.bytesWorld w5 5 (bs t))) := bytes_below w5 5 (bs t)
  have hcap : 2048 ≤ grownCap w5 2048 0 5 := grownCap_ge _ _ _ _
  generalize Lib.bytesWorld w5 5 (bs t) = W9 at *
  generalize grownCap w5 2048 0 5 = cap at *
  have C9 := Lib.hid hC9
  have F9 := Lib.hid hF9
  clear hC9 hF9
  go_wp2_with fail
  refine (PB.out _ b0 b1 (by decide) (by decide)).mono ?_
  rintro e w10 ⟨rfl, rfl⟩
  clear PB b0 b1
  have hc := C9.out (kq / 8) (by rw [HTL.out]; exact hq8)
  have hf := F9.out (kq / 8) (by rw [HTL.out]; exact hq8)
  have hvb := vB_bd (nth t (kq / 8))
  go_upto_region 10 with fail
  have hm8 : kq % 8 < 8 := Nat.mod_lt _ (by decide)
  rw [flip_byte (nth t (kq / 8)) (kq % 8) hm8]
  have hC10 : ∀ j, j < t.length → (W9.setCell ⟨w5.heap.size, kq / 8, none⟩ (.int .u8 (vB (nth t (kq / 8) ^^^ bitB (kq % 8))))).cell? ⟨w5.heap.size, j, none⟩ = some (.int .u8 (vB (nth (t.set (kq / 8) (nth t (kq / 8) ^^^ bitB (kq % 8))) j))) := fun j hj => set_cell C9.out (by rw [HTL.out]; exact hq8) _ j hj
  have HB10 : Hid (Below w5.heap.size w5 (W9.setCell ⟨w5.heap.size, kq / 8, none⟩ (.int .u8 (vB (nth t (kq / 8) ^^^ bitB (kq % 8)))))) := HB9.out.setCell (Nat.le_refl _) _
  have HTL' : Hid ((t.set (kq / 8) (nth t (kq / 8) ^^^ bitB (kq % 8))).length = 2048) := by unfold Hid; rw [List.length_set]; exact HTL.out
  generalize t.set (kq / 8) (nth t (kq / 8) ^^^ bitB (kq % 8)) = T' at *
  generalize W9.setCell ⟨w5.heap.size, kq / 8, none⟩ (.int .u8 (vB (nth t (kq / 8) ^^^ bitB (kq % 8)))) = W10 at *
  have hcv1 : (convert 38 9 (.slice (some ⟨w5.heap.size, 0, none⟩) 2048 cap)).run Try.prog W10 = .ok (.string (bs T')) W10 := by
    have h1 := conv_bytes W10 w5.heap.size 0 cap T' (fun j hj => by rw [Nat.zero_add]; exact hC10 j (by rw [HTL.out]; rw [HTL'.out] at hj; exact hj))
    rwa [HTL'.out] at h1
  clear hC10 hc hf hvb C9 F9 HB9 hq8 hpb hm8
  go_wp2_with fail
  refine (tget_any T' _ (by rw [HTL'.out]; decide)).mono ?_
  rintro e w11 ⟨hb, h⟩
  have HB11 := Lib.hid (HB10.out.trans (hb.mono HB10.out.size))
  clear hb HB10 hcv1
  rw [HFL.out] at h
  rcases h with ⟨n, L3, lb3, l3, h1, -⟩ | ⟨-, rfl⟩
  · cases h1
  have hz0 : ByteArray.mk #[0] = bs [0] := rfl
  have htn : t.length = 2048 := HTL.out
  go_wp2_with fail
  clear hz0 htn
  refine (tget_any (t ++ [0]) _ (by rw [List.length_append, HTL.out]; decide)).mono ?_
  rintro e w12 ⟨hb, h⟩
  have HB12 := Lib.hid (HB11.out.trans (hb.mono HB11.out.size))
  clear hb HB11
  rw [HMO.out] at h
  rcases h with ⟨n, L3, lb3, l3, h1, -⟩ | ⟨-, rfl⟩
  · cases h1
  go_wp2_with fail
  have HS12 := Lib.hid (HS5.out.below HB12.out)
  have HBW := Lib.hid (HB5.out.trans (HB12.out.mono HB5.out.size))
  have HTB : Hid (tableB 65536 (madeK L 16) = true) := madeK_ok L 16
  have HST : Hid (∀ (j : Nat) (d : HD), (madeK L 16)[j]? = some d → 0 < d.st → 8 ≤ d.segs.length ∧ d.segs.length ≤ 11) := fun j d h hs => made_state L 16 j d h hs
  generalize madeK L 16 = M at *
  clear HS5 HB5 HB12 HFL HMO HTL HTL' HP
  have HBB := Lib.hid (Below.refl w12.heap.size w12)
  go_loopw [24, 25] (fun who i wr => ∃ (k : Nat) (A : Option Addr) (c : Nat), k ≤ 16 ∧ i = .int .i64 k ∧ who = .slice A (whoK M k).length c ∧ EI.Own wr w12.heap.size (.slice A (whoK M k).length c) (whoK M k) ∧ Below w12.heap.size w12 wr) (fun _ i _ => 16 - (intOf i).toNat)
  case atStart => exact ⟨0, none, 0, by omega, rfl, rfl, El.Own.nil _ _, HBB.out⟩
  clear HBB
  case round =>
    obtain ⟨k, A, c, hk16, rfl, rfl, ho, hb⟩ := hrel
    have HO := Lib.hid ho
    have HB := Lib.hid hb
    clear ho hb
    have hwl := whoK_len M k
    by_cases hlt : k < 16
    · have HLT := Lib.hid hlt
      obtain ⟨x, hxk⟩ : ∃ x, l[k]? = some x := ⟨_, List.getElem?_eq_getElem (by rw [HLN.out]; exact hlt)⟩
      have HX := Lib.hid hxk
      have HMK : Hid (M[k]? = some x.d) := by unfold Hid; rw [← HDD.out, List.getElem?_map, hxk]; rfl
      clear hxk
      have g0 := EH_at2 (HS12.out.below HB.out).own HLN.out k _ HX.out 0 _ rfl
      simp only [Nat.add_zero] at g0
      have HSZ : Hid (w12.heap.size ≤ wr.heap.size) := HB.out.size
      by_cases hst : 0 < x.d.st
      · have HW := Lib.hid (whoK_yes M k x.d HMK.out hst)
        go_wp2_with (at_builtin; refine EI.app (w0 := w12) rfl _ _ rfl w12.heap.size (.slice A (whoK M k).length c) (whoK M k) (k : Int) rfl HO.out rfl _ rfl ?cb ?cm HSZ.out HB.out ?_; (case cb => simp only [EI]; omega); (case cm => omega); intro v' w1' ho hb hg hat; obtain ⟨A', c', rfl, -⟩ := ho.reads; have HO1 := Lib.hid ho; have HB1 := Lib.hid hb; clear ho hb hg hat)
        have HO2 : Hid (EI.Own w1' w12.heap.size (.slice A' (whoK M (k + 1)).length c') (whoK M (k + 1))) := by unfold Hid; rw [HW.out]; exact HO1.out
        have HL1 : Hid ((whoK M (k + 1)).length = (whoK M k).length + 1) := by unfold Hid; rw [HW.out, List.length_append]; rfl
        go_roundw
        case rel => exact ⟨k + 1, A', c', by omega, by go_num, by rw [HL1.out], HO2.out, HB1.out⟩
        case measure => simp only [intOf]; omega
      · have HW := Lib.hid (whoK_no M k x.d HMK.out hst)
        go_wp2_with fail
        go_roundw
        case rel => exact ⟨k + 1, A, c, by omega, by go_num, by rw [HW.out], by rw [HW.out]; exact HO.out, HB.out⟩
        case measure => simp only [intOf]; omega
    · obtain rfl : k = 16 := by omega
      clear hlt hk16
      have HB' := Lib.hid (HBW.out.trans (HB.out.mono HBW.out.size))
      by_cases hw2 : (whoK M 16).length < 2
      · go_wp2_with fail
        refine (awake6_any _).mono ?_
        rintro e w13 ⟨rfl, hb⟩
        have HB13 := Lib.hid (HB'.out.trans (hb.mono HB'.out.size))
        clear hb
        go_wp2_with fail
        go_ret
        exact ⟨rfl, HB13.out⟩
      · have hpl := placeOf_bd which ((whoK M 16).length - 1) (by omega)
        have PW := Lib.hid (place_any which ((whoK M 16).length - 1))
        generalize placeOf which ((whoK M 16).length - 1) = pw at *
        obtain ⟨kw, rfl⟩ := Int.eq_ofNat_of_zero_le hpl.1
        have HWA := Lib.hid (whoK_at M 16 kw (by omega))
        have HKW : Hid (kw + 1 < (whoK M 16).length) := by unfold Hid; omega
        go_wp2_with fail
        refine (PW.out _ c0 c1 (by omega) (by omega)).mono ?_
        rintro e w13 ⟨rfl, rfl⟩
        clear PW hw2
        obtain ⟨a, b, da, db, wa, wb, hab, hb16, hMa, hMb, pa, pb⟩ := HWA.out
        clear HWA
        have hWL : 0 < (whoK M 16).length := by have := HKW.out; omega
        have hO := HO.out
        obtain ⟨gw, rfl, hgw1, hgw2⟩ := own_addr hO hWL
        have hwa := (El.Own.atAddr hO rfl kw _ (List.getElem?_eq_getElem (by have := HKW.out; omega)) 0 _ rfl).1
        have hwb := (El.Own.atAddr hO rfl (kw + 1) _ (List.getElem?_eq_getElem HKW.out) 0 _ rfl).1
        have ew : ∀ i (hi : i < (whoK M 16).length), (whoK M 16)[i] = nthI (whoK M 16) i := fun i hi => by simp only [nthI, List.getD_eq_getElem?_getD, List.getElem?_eq_getElem hi, Option.getD_some]
        rw [ew] at hwa hwb
        rw [wa] at hwa
        rw [wb] at hwb
        simp only [EI, Nat.mul_one, Nat.add_zero] at hwa hwb
        clear hO ew wa wb
        have HSr := Lib.hid (HS12.out.below HB.out)
        obtain ⟨xa, hxa⟩ : ∃ x, l[a]? = some x := ⟨_, List.getElem?_eq_getElem (by rw [HLN.out]; omega)⟩
        obtain ⟨xb, hxb⟩ : ∃ x, l[b]? = some x := ⟨_, List.getElem?_eq_getElem (by rw [HLN.out]; omega)⟩
        have eda : xa.d = da := by
          have : M[a]? = some xa.d := by rw [← HDD.out, List.getElem?_map, hxa]; rfl
          rw [hMa] at this; injection this with this; exact this.symm
        have edb : xb.d = db := by
          have : M[b]? = some xb.d := by rw [← HDD.out, List.getElem?_map, hxb]; rfl
          rw [hMb] at this; injection this with this; exact this.symm
        have la := HST.out a da hMa pa
        have lb' := HST.out b db hMb pb
        have sa := HSr.out.segs xa (List.mem_of_getElem? hxa)
        have sb := HSr.out.segs xb (List.mem_of_getElem? hxb)
        have ca := (EH_at2 HSr.out.own HLN.out a _ hxa 9 _ rfl).1
        have cb := (EH_at2 HSr.out.own HLN.out b _ hxb 9 _ rfl).1
        rw [eda] at sa ca
        rw [edb] at sb cb
        obtain ⟨ga, hga, -, -⟩ := own_addr sa (by omega)
        obtain ⟨gb, hgb, -, -⟩ := own_addr sb (by omega)
        rw [hga] at sa ca
        rw [hgb] at sb cb
        have ea := (El.Own.atAddr sa rfl (da.segs.length - 1) _ (List.getElem?_eq_getElem (by omega)) 0 _ rfl).1
        have eb := El.Own.atAddr sb rfl 0 _ (List.getElem?_eq_getElem (by omega)) 0 _ rfl
        simp only [EI, Nat.mul_one, Nat.add_zero] at ea eb
        have hmem : da.segs[da.segs.length - 1] ∈ da.segs := List.getElem_mem _
        generalize da.segs[da.segs.length - 1] = s at *
        generalize db.segs[0] = s0 at *
        have HXA := Lib.hid hxa
        have HXB := Lib.hid hxb
        have HTW : Hid (tableB 65536 (M.set b ⟨db.st, db.gn, db.x, db.segs.set 0 s⟩) = false) := twice_bad hab hMa hMb s hmem (by omega)
        have HGB := Lib.hid hgb
        have HEB := Lib.hid edb
        have HLB := Lib.hid lb'
        clear hxa hxb hmem sa sb hMa hMb pa pb hga hgb eda edb hWL hgw1 hgw2
        have hb1 : (b : Int) < 16 := by omega
        have ha1 : (a : Int) < 16 := by omega
        have hk1 : (kw : Int) < ((whoK M 16).length : Int) := by have := HKW.out; omega
        have hk2 : (kw : Int) + 1 < ((whoK M 16).length : Int) := by have := HKW.out; omega
        have hl1 : (1 : Int) ≤ (da.segs.length : Int) := by omega
        have hl2 : (0 : Int) < (db.segs.length : Int) := by omega
        go_upto_region 23 with fail
        go_region
        clear hwa hwb ca cb ea eb hb1 ha1 hk1 hk2 hl1 hl2 HO la lb'
        have HS' : Hid (HSt (wr.setCell ⟨gb, 0, none⟩ (.int .i64 s)).drew w.heap.size (.slice (some ⟨lb, 0, none⟩) 16 16) (l.set b ⟨⟨xb.d.st, xb.d.gn, xb.d.x, xb.d.segs.set 0 s⟩, xb.A, xb.c⟩)) := by
          have h := HSr.out
          rw [← HLN.out] at h
          have h2 := h.segstore b xb HXB.out gb HGB.out 0 (by rw [HEB.out]; have := HLB.out; omega) s
          rw [HLN.out] at h2
          exact h2.drew
        have HB2 : Hid (Below w.heap.size w (wr.setCell ⟨gb, 0, none⟩ (.int .i64 s)).drew) := by
          have := (HSr.out.seg_block (List.mem_of_getElem? HXB.out) HGB.out).1
          exact (HB'.out.setCell this _).drew
        have HTW2 : Hid (tableB 65536 ((l.set b ⟨⟨xb.d.st, xb.d.gn, xb.d.x, xb.d.segs.set 0 s⟩, xb.A, xb.c⟩).map (·.d)) = false) := by
          unfold Hid
          rw [List.map_set, HDD.out, HEB.out]; exact HTW.out
        have HL2 : Hid ((l.set b ⟨⟨xb.d.st, xb.d.gn, xb.d.x, xb.d.segs.set 0 s⟩, xb.A, xb.c⟩).length = 16) := by unfold Hid; rw [List.length_set]; exact HLN.out
        have HSH2 : Hid (∀ h ∈ l.set b ⟨⟨xb.d.st, xb.d.gn, xb.d.x, xb.d.segs.set 0 s⟩, xb.A, xb.c⟩, h.d.segs.length ≤ 140737488351232) := fun h hh => by
          rcases List.mem_or_eq_of_mem_set hh with hm | rfl
          · have := HSH.out h hm; omega
          · rw [List.length_set]; have := HSH.out xb (List.mem_of_getElem? HXB.out); omega
        clear HTW HSr HXA HXB HGB HEB HLB HST HTB HSH HDD HLN HB' HBW HS12 HB HKW
        generalize l.set b ⟨⟨xb.d.st, xb.d.gn, xb.d.x, xb.d.segs.set 0 s⟩, xb.A, xb.c⟩ = l5 at *
        go_upto_region 24 with fail
        generalize (wr.setCell ⟨gb, 0, none⟩ (.int .i64 s)).drew = W5 at *
        go_wp2_with fail
        refine (tput_val n0 _ l5 _ HS'.out.reads (by rw [HL2.out]; decide) HSH2.out none (put_bad HTW2.out)).mono ?_
        rintro e w14 ⟨rfl, hb⟩
        have HB3 := Lib.hid (HB2.out.trans (hb.mono HB2.out.size))
        have HS3 := Lib.hid (HS'.out.below hb)
        clear hb HB2 HS'
        unfold putAns
        go_wp2_with fail
        refine (tcheck_any 65536 _ l5 _ HS3.out.reads (by decide) (by rw [HL2.out]; decide) HSH2.out).mono ?_
        rw [HTW2.out]
        rintro e w15 ⟨rfl, hb⟩
        have HB4 := Lib.hid (HB3.out.trans (hb.mono HB3.out.size))
        clear hb HB3 HS3
        go_wp2_with fail
        refine (awake6_any _).mono ?_
        rintro e w16 ⟨rfl, hb⟩
        have HB6 := Lib.hid (HB4.out.trans (hb.mono HB4.out.size))
        clear hb HB4
        go_wp2_with fail
        go_ret
        exact ⟨rfl, HB6.out⟩
end
end Go.Proofs.Ytjoplgdcpihmaaa
