/- The law ChunkBack: its walk. -/
import Derived.Test.YtjoplgdcpihmaaaChkC
import Derived.Test.YtjoplgdcpihmaaaHeadO
import Derived.Test.YtjoplgdcpihmaaaOpen2
namespace Go.Proofs.Ytjoplgdcpihmaaa
open Go.RowKit
section
attribute [local go_sem] bs_size bs_append bs_extract bs_toList List.length_append
attribute [local go_sem ↓] Go.wp_at_zero Go.wp_at_succ
set_option maxRecDepth 100000 in
set_option maxHeartbeats 8000000 in
theorem chunkBack_walk (v : Value) (L : List Int) (more : List UInt8) (bit lost : Int) (w : World) (hr : EI.Reads w v L) (_hn : NilOk v) (hin : (∀ x ∈ L, inI x) ∧ L.length ≤ 9223372036854775807) (b0 : -9223372036854775808 ≤ bit) (b1 : bit ≤ 9223372036854775807) (c0 : -9223372036854775808 ≤ lost) (c1 : lost ≤ 9223372036854775807) :
    Calls Try.prog 13 #[v, .string (bs more), .int .i64 bit, .int .i64 lost] w fun e w' => e = .returned (.bool true) ∧ Below w.heap.size w w' := by
  by_cases h2000 : (more.length : Int) ≤ 2000
  rotate_left
  · clear hr hin b0 b1 c0 c1
    go_enter Try.func13, Try.ntmps13
    go_wp2_with fail
    refine (awake13_any _).mono ?_
    rintro e w1 ⟨rfl, hb⟩
    have HB1 := Lib.hid hb
    clear hb
    go_wp2_with fail
    go_ret
    exact ⟨rfl, HB1.out⟩
  have HMD := Lib.hid (made13_any v L w hr hin.1 hin.2)
  obtain ⟨s, hs⟩ := chunkPut_is (mkM_ok L) (by rw [mkBs_len, mkEs_len]) (mkM_blocks L 24)
  have hbl : (mkBs L 24).length ≤ 24 := by rw [mkBs_len]; omega
  have hel : (mkEs L 24).length ≤ 24 := by rw [mkEs_len]; omega
  have hsl : s.length = 256 * (1 + (mkBs L 24).length) := (chunkPut_parts hs).choose_spec.2.2.2.2.2.2
  generalize mkEs L 24 = Es at *
  generalize mkBs L 24 = Bs at *
  have HP := Lib.hid hs
  have HG := Lib.hid (chunk_back hs more)
  have HFL : Hid (∀ q, q < s.length → ∀ c, c ≠ nth s q → chunkGet (s.set q c) = none) := fun q hq c hc => chunk_flip hs q hq c hc
  have HLO : Hid (∀ k, k ≤ Bs.length → chunkGet (s.take (k * 256)) = none) := fun k hk => chunk_lost hs k hk
  have PB := Lib.hid (place_any bit (8 * (s.length : Int)))
  have PL := Lib.hid (place_any lost (1 + (Bs.length : Int)))
  have hpb := placeOf_bd bit (8 * (s.length : Int)) (by omega)
  have hpl := placeOf_bd lost (1 + (Bs.length : Int)) (by omega)
  generalize placeOf bit (8 * (s.length : Int)) = kb at *
  generalize placeOf lost (1 + (Bs.length : Int)) = kl at *
  obtain ⟨kq, rfl⟩ := Int.eq_ofNat_of_zero_le hpb.1
  obtain ⟨kw, rfl⟩ := Int.eq_ofNat_of_zero_le hpl.1
  have hq8 : kq / 8 < s.length := by omega
  have HFL2 := Lib.hid (HFL.out (kq / 8) hq8 (nth s (kq / 8) ^^^ bitB (kq % 8)) (flip_ne _ _ (Nat.mod_lt _ (by decide))))
  have HLO2 := Lib.hid (HLO.out kw (by omega))
  have HSL := Lib.hid hsl
  have HBL := Lib.hid hbl
  have HEL := Lib.hid hel
  have hs1 : (256 : Int) ≤ (s.length : Int) := by omega
  have hs2 : (s.length : Int) ≤ 6400 := by omega
  have HSB : Hid (s.length ≤ 6400) := by unfold Hid; omega
  have HMB : Hid (more.length ≤ 2000) := by unfold Hid; omega
  have HLI : Hid ((s.length : Int) = 256 * (1 + (Bs.length : Int))) := by unfold Hid; omega
  have hkw : (kw : Int) * 256 ≤ (s.length : Int) := by omega
  have HKW := Lib.hid hkw
  clear hs hr hin HFL HLO hsl hel hkw
  go_enter Try.func13, Try.ntmps13
  go_wp2_with fail
  refine HMD.out.mono ?_
  rintro e w1 ⟨hb, A9, c9, A, c, rfl, ho, hobs⟩
  have HB1 := Lib.hid (hb.alloc hb.size (.cells #[.int .i64 1, .int .i64 2, .int .i64 3, .int .i64 4, .int .i64 5, .int .i64 6, .int .i64 0, .int .i64 0, .slice A9 Es.length c9] 24))
  have HF9 := Lib.hid (Fr.one w1 #[.int .i64 1, .int .i64 2, .int .i64 3, .int .i64 4, .int .i64 5, .int .i64 6, .int .i64 0, .int .i64 0, .slice A9 Es.length c9] 24)
  have HE1 := Lib.hid (ho.reads.below HF9.out.bel)
  have HS1 := Lib.hid (hobs.reads.below HF9.out.bel)
  clear hb ho hobs HMD
  go_upto_region 4 with fail
  generalize hW1 : w1.alloc (.cells #[.int .i64 1, .int .i64 2, .int .i64 3, .int .i64 4, .int .i64 5, .int .i64 6, .int .i64 0, .int .i64 0, .slice A9 Es.length c9] 24) = W1 at *
  clear hW1
  have e9 : ∀ j : Nat, W1.cell? ⟨w1.heap.size, j, none⟩ = (#[.int .i64 1, .int .i64 2, .int .i64 3, .int .i64 4, .int .i64 5, .int .i64 6, .int .i64 0, .int .i64 0, .slice A9 Es.length c9] : Array Value)[j]? := HF9.out.cells (i := 0) rfl rfl
  go_wp2_with fail
  refine (make_val hdM _ Es _ Bs (some s) _ HE1.out HS1.out (by have := HEL.out; omega) (by have := HBL.out; omega) HP.out).mono ?_
  rintro e w2 ⟨rfl, hb⟩
  have HB2 := Lib.hid (HB1.out.trans (hb.mono HB1.out.size))
  have HF2 := Lib.hid (HF9.out.below hb)
  have HE2 := Lib.hid (HE1.out.below hb)
  have HS2 := Lib.hid (HS1.out.below hb)
  clear hb e9 HB1 HF9 HE1 HS1
  simp only [Option.getD_some, Option.isSome_some]
  go_wp2_with fail
  refine (parse_some (s ++ more) hdM Es Bs _ (by have := HSB.out; have := HMB.out; rw [List.length_append]; omega) HG.out).mono ?_
  rintro e w3 ⟨hb, A13, c13, A14, c14, rfl, ho, hobs⟩
  simp only [hdM]
  have HB3 := Lib.hid ((HB2.out.trans (hb.mono HB2.out.size)).alloc (HB2.out.trans (hb.mono HB2.out.size)).size (.cells #[.int .i64 1, .int .i64 2, .int .i64 3, .int .i64 4, .int .i64 5, .int .i64 6, .int .i64 0, .int .i64 0, .slice A13 Es.length c13] 24))
  have HX := Lib.hid (Fr.one w3 #[.int .i64 1, .int .i64 2, .int .i64 3, .int .i64 4, .int .i64 5, .int .i64 6, .int .i64 0, .int .i64 0, .slice A13 Es.length c13] 24)
  have HF3 := Lib.hid ((HF2.out.below hb).below HX.out.bel)
  have HE3 := Lib.hid ((HE2.out.below hb).below HX.out.bel)
  have HS3 := Lib.hid ((HS2.out.below hb).below HX.out.bel)
  have HE4 := Lib.hid (ho.reads.below HX.out.bel)
  have HS4 := Lib.hid (hobs.reads.below HX.out.bel)
  clear hb ho hobs HB2 HF2 HE2 HS2
  go_upto_region 6 with fail
  generalize hW3 : w3.alloc (.cells #[.int .i64 1, .int .i64 2, .int .i64 3, .int .i64 4, .int .i64 5, .int .i64 6, .int .i64 0, .int .i64 0, .slice A13 Es.length c13] 24) = W3 at *
  clear hW3
  have e9 : ∀ j : Nat, W3.cell? ⟨w1.heap.size, j, none⟩ = (#[.int .i64 1, .int .i64 2, .int .i64 3, .int .i64 4, .int .i64 5, .int .i64 6, .int .i64 0, .int .i64 0, .slice A9 Es.length c9] : Array Value)[j]? := HF3.out.cells (i := 0) rfl rfl
  have e13 : ∀ j : Nat, W3.cell? ⟨w3.heap.size, j, none⟩ = (#[.int .i64 1, .int .i64 2, .int .i64 3, .int .i64 4, .int .i64 5, .int .i64 6, .int .i64 0, .int .i64 0, .slice A13 Es.length c13] : Array Value)[j]? := HX.out.cells (i := 0) rfl rfl
  go_wp2_with fail
  refine (same_any hdM _ _ Es _ HE4.out HE3.out (by have := HEL.out; omega)).mono ?_
  rintro e w4 ⟨rfl, hb⟩
  have HB4 := Lib.hid (HB3.out.trans (hb.mono HB3.out.size))
  have HS5 := Lib.hid (HS3.out.below hb)
  have HS6 := Lib.hid (HS4.out.below hb)
  clear hb e9 e13 HB3 HX HF3 HE3 HS3 HE4 HS4
  go_wp2_with fail
  refine (samestr_any _ _ Bs _ HS5.out HS6.out (by have := HBL.out; omega)).mono ?_
  rintro e w5 ⟨rfl, hb⟩
  have HB5 := Lib.hid (HB4.out.trans (hb.mono HB4.out.size))
  clear hb HB4 HS5 HS6
  have hlb : ((s.length : Int) != 256 * (1 + (Bs.length : Int))) = false := by rw [bne_eq_false_iff_eq]; exact HLI.out
  go_upto_region 8 with fail
  clear hlb
  have hcv : ∀ W : World, (convert 9 38 (.string (bs s))).run Try.prog W = .ok (.slice (some ⟨W.heap.size, 0, none⟩) s.length (grownCap W s.length 0 5)) (Lib.bytesWorld W 5 (bs s)) := fun W => by
    have h1 := Lib.run_convert_string_bytes (P := Try.prog) W 9 38 5 (bs s) Try.underlying9 Try.underlying38 Try.underlying5
    rw [bs_size] at h1; exact h1
  go_upto_region 9 with fail
  clear hcv
  have hC9 : ∀ j, j < s.length → (Lib.bytesWorld w5 5 (bs s)).cell? ⟨w5.heap.size, j, none⟩ = some (.int .u8 (vB (nth s j))) := fun j hj => bytes_cell w5 5 s j hj
  have hF9 : ∀ j, j < s.length → (Lib.bytesWorld w5 5 (bs s)).frozen? ⟨w5.heap.size, j, none⟩ = false := fun j hj => bytes_free w5 5 s j hj
  have HB9 : Hid (Below w.heap.size w (Lib.bytesWorld w5 5 (bs s))) := HB5.out.trans ((bytes_below w5 5 (bs s)).mono HB5.out.size)
  have HG9 : Hid (w.heap.size ≤ w5.heap.size) := HB5.out.size
  have hcap : s.length ≤ grownCap w5 s.length 0 5 := grownCap_ge _ _ _ _
  generalize Lib.bytesWorld w5 5 (bs s) = W9 at *
  generalize grownCap w5 s.length 0 5 = cap at *
  have C9 := Lib.hid hC9
  have F9 := Lib.hid hF9
  clear hC9 hF9 HB5
  go_wp2_with fail
  refine (PB.out _ b0 b1 (by omega) (by omega)).mono ?_
  rintro e w10 ⟨rfl, rfl⟩
  clear PB b0 b1
  have hc := C9.out (kq / 8) hq8
  have hf := F9.out (kq / 8) hq8
  have hvb := vB_bd (nth s (kq / 8))
  go_upto_region 11 with fail
  have hm8 : kq % 8 < 8 := Nat.mod_lt _ (by decide)
  rw [flip_byte (nth s (kq / 8)) (kq % 8) hm8]
  have hC10 : ∀ j, j < s.length → (W9.setCell ⟨w5.heap.size, kq / 8, none⟩ (.int .u8 (vB (nth s (kq / 8) ^^^ bitB (kq % 8))))).cell? ⟨w5.heap.size, j, none⟩ = some (.int .u8 (vB (nth (s.set (kq / 8) (nth s (kq / 8) ^^^ bitB (kq % 8))) j))) := fun j hj => set_cell C9.out hq8 _ j hj
  have HB10 : Hid (Below w.heap.size w (W9.setCell ⟨w5.heap.size, kq / 8, none⟩ (.int .u8 (vB (nth s (kq / 8) ^^^ bitB (kq % 8)))))) := HB9.out.setCell HG9.out _
  have HTL' : Hid ((s.set (kq / 8) (nth s (kq / 8) ^^^ bitB (kq % 8))).length = s.length) := List.length_set
  generalize s.set (kq / 8) (nth s (kq / 8) ^^^ bitB (kq % 8)) = T' at *
  generalize W9.setCell ⟨w5.heap.size, kq / 8, none⟩ (.int .u8 (vB (nth s (kq / 8) ^^^ bitB (kq % 8)))) = W10 at *
  have hcv1 : (convert 38 9 (.slice (some ⟨w5.heap.size, 0, none⟩) s.length cap)).run Try.prog W10 = .ok (.string (bs T')) W10 := by
    have h1 := conv_bytes W10 w5.heap.size 0 cap T' (fun j hj => by rw [Nat.zero_add]; exact hC10 j (by rw [HTL'.out] at hj; exact hj))
    rwa [HTL'.out] at h1
  clear hC10 hc hf hvb C9 F9 HB9 hq8 hpb hm8
  go_wp2_with fail
  refine (parse_none T' _ (by have := HSB.out; rw [HTL'.out]; omega) HFL2.out).mono ?_
  rintro e w11 ⟨rfl, hb⟩
  have HB11 := Lib.hid ((HB10.out.trans (hb.mono HB10.out.size)).alloc (HB10.out.trans (hb.mono HB10.out.size)).size (.cells #[.int .i64 0, .int .i64 0, .int .i64 0, .int .i64 0, .int .i64 0, .int .i64 0, .int .i64 0, .int .i64 0, .slice none 0 0] 24))
  clear hb HB10 hcv1
  have hbl2 : (Bs.length : Int) ≤ 24 := by have := HBL.out; omega
  go_wp2_with fail
  generalize w11.alloc (.cells #[.int .i64 0, .int .i64 0, .int .i64 0, .int .i64 0, .int .i64 0, .int .i64 0, .int .i64 0, .int .i64 0, .slice none 0 0] 24) = W11 at *
  refine (PL.out _ c0 c1 (by omega) (by omega)).mono ?_
  rintro e w12 ⟨rfl, rfl⟩
  have hkw := HKW.out
  go_wp2_with fail
  refine (parse_none (s.take (kw * 256)) _ (by have := HSB.out; rw [List.length_take]; omega) HLO2.out).mono ?_
  rintro e w13 ⟨rfl, hb⟩
  have HB13 := Lib.hid ((HB11.out.trans (hb.mono HB11.out.size)).alloc (HB11.out.trans (hb.mono HB11.out.size)).size (.cells #[.int .i64 0, .int .i64 0, .int .i64 0, .int .i64 0, .int .i64 0, .int .i64 0, .int .i64 0, .int .i64 0, .slice none 0 0] 24))
  clear hb HB11
  go_wp2_with fail
  generalize w13.alloc (.cells #[.int .i64 0, .int .i64 0, .int .i64 0, .int .i64 0, .int .i64 0, .int .i64 0, .int .i64 0, .int .i64 0, .slice none 0 0] 24) = W13 at *
  refine (awake13_any _).mono ?_
  rintro e w14 ⟨rfl, hb⟩
  have HB14 := Lib.hid (HB13.out.trans (hb.mono HB13.out.size))
  clear hb
  go_wp2_with fail
  go_ret
  exact ⟨rfl, HB14.out⟩
end
end Go.Proofs.Ytjoplgdcpihmaaa
