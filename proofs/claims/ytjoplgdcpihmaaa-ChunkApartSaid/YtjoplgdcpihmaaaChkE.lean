/- The law ChunkApart: its walk. -/
import Derived.Test.YtjoplgdcpihmaaaChkC
import Derived.Test.YtjoplgdcpihmaaaOpen2
namespace Go.Proofs.Ytjoplgdcpihmaaa
open Go.RowKit
def xB (bits : Int) (i : Nat) : UInt8 := lowB (bits / 2 ^ (8 * i))
/-- The first i of four bytes are turned. -/
def four (s : List UInt8) (k : Nat) (bits : Int) : Nat → List UInt8
  | 0 => s
  | i + 1 => (four s k bits i).set (k + i) (nth s (k + i) ^^^ xB bits i)
theorem four_len (s : List UInt8) (k : Nat) (bits : Int) (i : Nat) : (four s k bits i).length = s.length := by
  induction i with
  | zero => rfl
  | succ i ih => simp only [four, List.length_set, ih]
theorem four_nth (s : List UInt8) (k : Nat) (bits : Int) (i : Nat) (hk : k + i ≤ s.length) (j : Nat) : nth (four s k bits i) j = if k ≤ j ∧ j < k + i then nth s j ^^^ xB bits (j - k) else nth s j := by
  induction i with
  | zero => rw [if_neg (by omega)]; rfl
  | succ i ih =>
    simp only [four]
    rw [nth_set _ _ _ _ (by rw [four_len]; omega), ih (by omega)]
    by_cases h1 : j = k + i
    · subst h1
      rw [if_pos rfl, if_pos (by omega), show k + i - k = i by omega]
    · rw [if_neg h1]
      by_cases h2 : k ≤ j ∧ j < k + i
      · rw [if_pos h2, if_pos (by omega)]
      · rw [if_neg h2, if_neg (by omega)]
theorem ext_nth {a b : List UInt8} (hl : a.length = b.length) (h : ∀ j, j < a.length → nth a j = nth b j) : a = b := by
  apply List.ext_getElem hl
  intro i h1 h2
  have := h i h1
  simpa only [nth, List.getD_eq_getElem?_getD, List.getElem?_eq_getElem h1, List.getElem?_eq_getElem h2, Option.getD_some] using this
theorem some_byte {bits : Int} (h0 : 0 ≤ bits) (h1 : bits ≤ 4294967295) (hne : bits ≠ 0) : ∃ i, i < 4 ∧ xB bits i ≠ 0 := by
  have hz : ∀ i : Nat, xB bits i = 0 → (bits / 2 ^ (8 * i)) % 256 = 0 := fun i h => by
    have := vB_low (bits / 2 ^ (8 * i))
    unfold xB at h
    rw [h] at this
    exact this.symm
  by_cases a0 : xB bits 0 = 0
  · by_cases a1 : xB bits 1 = 0
    · by_cases a2 : xB bits 2 = 0
      · by_cases a3 : xB bits 3 = 0
        · exfalso
          have z0 := hz 0 a0
          have z1 := hz 1 a1
          have z2 := hz 2 a2
          have z3 := hz 3 a3
          have p0 : (2 : Int) ^ (8 * 0) = 1 := by decide
          have p1 : (2 : Int) ^ (8 * 1) = 256 := by decide
          have p2 : (2 : Int) ^ (8 * 2) = 65536 := by decide
          have p3 : (2 : Int) ^ (8 * 3) = 16777216 := by decide
          rw [p0] at z0
          rw [p1] at z1
          rw [p2] at z2
          rw [p3] at z3
          omega
        · exact ⟨3, by decide, a3⟩
      · exact ⟨2, by decide, a2⟩
    · exact ⟨1, by decide, a1⟩
  · exact ⟨0, by decide, a0⟩
theorem xor_ne {c x : UInt8} (h : x ≠ 0) : c ^^^ x ≠ c := by
  intro e
  have h2 : c ^^^ (c ^^^ x) = c ^^^ c := by rw [e]
  rw [← UInt8.xor_assoc, UInt8.xor_self, UInt8.zero_xor] at h2
  exact h h2
/-- Four bytes of the body turned: no chunk. -/
theorem chunk_four {h : Hd} {l : List Ent} {B : List (List UInt8)} {s : List UInt8} (hs : chunkPut h l B = some s) (k : Nat) (hk : 256 ≤ k) (hk2 : k + 4 ≤ s.length) (bits : Int) (h0 : 0 ≤ bits) (h1 : bits ≤ 4294967295) (hne : bits ≠ 0) : chunkGet (four s k bits 4) = none := by
  have hl := four_len s k bits 4
  have hn := four_nth s k bits 4 hk2
  have hsl : 256 ≤ s.length := by omega
  refine chunk_sum hs hl ?_ ?_
  · apply ext_nth (by rw [List.length_take, List.length_take, hl])
    intro j hj
    rw [List.length_take] at hj
    rw [nth_take _ _ _ (by omega), nth_take _ _ _ (by omega), hn, if_neg (by omega)]
  · have e : ∀ u : List UInt8, u.length = s.length → u.take 252 ++ u.drop 256 = (u.take 252 ++ (u.drop 256).take (k - 256)) ++ ([nth u k, nth u (k + 1), nth u (k + 2), nth u (k + 3)] ++ u.drop (k + 4)) := by
      intro u hu
      have e1 : u.drop 256 = (u.drop 256).take (k - 256) ++ u.drop k := by
        conv => lhs; rw [← List.take_append_drop (k - 256) (u.drop 256)]
        rw [List.drop_drop, show 256 + (k - 256) = k by omega]
      have st : ∀ m, m < u.length → u.drop m = nth u m :: u.drop (m + 1) := fun m hm => by
        rw [List.drop_eq_getElem_cons hm]
        simp only [nth, List.getD_eq_getElem?_getD, List.getElem?_eq_getElem hm, Option.getD_some]
      conv => lhs; rw [e1]
      rw [st k (by omega), st (k + 1) (by omega), st (k + 1 + 1) (by omega), st (k + 1 + 1 + 1) (by omega)]
      simp only [List.append_assoc, List.cons_append, List.nil_append]
    intro hc
    rw [e _ hl, e s rfl] at hc
    have hA : (four s k bits 4).take 252 ++ ((four s k bits 4).drop 256).take (k - 256) = s.take 252 ++ (s.drop 256).take (k - 256) := by
      apply ext_nth (by simp only [List.length_append, List.length_take, List.length_drop, hl])
      intro j hj
      simp only [List.length_append, List.length_take, List.length_drop, hl] at hj
      have g : ∀ u : List UInt8, u.length = s.length → nth (u.take 252 ++ (u.drop 256).take (k - 256)) j = nth u (if j < 252 then j else j + 4) := by
        intro u hu
        unfold nth
        rw [List.getD_eq_getElem?_getD, List.getD_eq_getElem?_getD]
        by_cases hj2 : j < 252
        · rw [if_pos hj2, List.getElem?_append_left (by rw [List.length_take]; omega), List.getElem?_take, if_pos hj2]
        · rw [if_neg hj2, List.getElem?_append_right (by rw [List.length_take]; omega), List.length_take, List.getElem?_take, if_pos (by omega), List.getElem?_drop, show 256 + (j - min 252 u.length) = j + 4 by omega]
      rw [g _ hl, g s rfl, hn, if_neg (by split <;> omega)]
    have hD : (four s k bits 4).drop (k + 4) = s.drop (k + 4) := by
      apply ext_nth (by rw [List.length_drop, List.length_drop, hl])
      intro j hj
      rw [nth_drop, nth_drop, hn, if_neg (by omega)]
    rw [hA, hD] at hc
    generalize s.take 252 ++ (s.drop 256).take (k - 256) = A at hc
    generalize s.drop (k + 4) = D at hc
    have hm := crcMore_fold (vU_inj hc)
    obtain ⟨i, hi, hx⟩ := some_byte h0 h1 hne
    have hbad : nth (four s k bits 4) (k + i) ≠ nth s (k + i) := by
      rw [hn, if_pos (by omega), show k + i - k = i by omega]; exact xor_ne hx
    generalize nth (four s k bits 4) = f1 at *
    generalize nth s = f2 at *
    have e1 : ∀ (x : BitVec 32) (c : List UInt8), crcFold x (A ++ (c ++ D)) = crcFold (crcFold (crcFold x A) c) D := fun x c => by rw [crcFold_append, crcFold_append]
    rw [e1, e1] at hm
    have h4 := crcFold_four (crcFold_state hm)
    have hi' : i = 0 ∨ i = 1 ∨ i = 2 ∨ i = 3 := by omega
    rcases hi' with rfl | rfl | rfl | rfl
    · exact hbad h4.1
    · exact hbad h4.2.1
    · exact hbad h4.2.2.1
    · exact hbad h4.2.2.2
section
attribute [local go_sem] bs_size bs_append bs_toList List.length_append
attribute [local go_sem ↓] Go.wp_at_zero Go.wp_at_succ
set_option maxRecDepth 100000 in
set_option maxHeartbeats 8000000 in
theorem chunkApart_walk (v : Value) (L : List Int) (at_ bits : Int) (w : World) (hr : EI.Reads w v L) (_hn : NilOk v) (hin : (∀ x ∈ L, inI x) ∧ L.length ≤ 9223372036854775807) (b0 : -9223372036854775808 ≤ at_) (b1 : at_ ≤ 9223372036854775807) (c0 : 0 ≤ bits) (c1 : bits ≤ 4294967295) :
    Calls Try.prog 15 #[v, .int .i64 at_, .int .u32 bits] w fun e w' => e = .returned (.bool true) ∧ Below w.heap.size w w' := by
  have HMD := Lib.hid (made13_any v L w hr hin.1 hin.2)
  obtain ⟨s, hs⟩ := chunkPut_is (mkM_ok L) (by rw [mkBs_len, mkEs_len]) (mkM_blocks L 24)
  have hbl : (mkBs L 24).length ≤ 24 := by rw [mkBs_len]; omega
  have hel : (mkEs L 24).length ≤ 24 := by rw [mkEs_len]; omega
  have hsl : s.length = 256 * (1 + (mkBs L 24).length) := (chunkPut_parts hs).choose_spec.2.2.2.2.2.2
  generalize mkEs L 24 = Es at *
  generalize mkBs L 24 = Bs at *
  have HP := Lib.hid hs
  have HBL := Lib.hid hbl
  have HEL := Lib.hid hel
  by_cases hnb : Bs.length = 0 ∨ bits = 0
  · have hways : (Bs.length : Int) = 0 ∨ (¬ (Bs.length : Int) = 0 ∧ bits = 0) := by omega
    have HWA := Lib.hid hways
    clear hr hin hs hnb hways hsl hbl hel
    go_enter Try.func15, Try.ntmps15
    go_wp2_with fail
    refine HMD.out.mono ?_
    rintro e w1 ⟨hb, A9, c9, A, c, rfl, ho, hobs⟩
    have HB1 := Lib.hid (hb.alloc hb.size (.cells #[.int .i64 1, .int .i64 2, .int .i64 3, .int .i64 4, .int .i64 5, .int .i64 6, .int .i64 0, .int .i64 0, .slice A9 Es.length c9] 24))
    clear hb ho hobs HMD
    rcases HWA.out with hz | ⟨hz1, hz⟩
    · have hzb : ((Bs.length : Int) == 0) = true := by rw [hz]; decide
      clear hz
      go_wp2_with fail
      generalize w1.alloc (.cells #[.int .i64 1, .int .i64 2, .int .i64 3, .int .i64 4, .int .i64 5, .int .i64 6, .int .i64 0, .int .i64 0, .slice A9 Es.length c9] 24) = W1 at *
      refine (awake13_any _).mono ?_
      rintro e w2 ⟨rfl, hb⟩
      have HB2 := Lib.hid (HB1.out.trans (hb.mono HB1.out.size))
      clear hb
      go_wp2_with fail
      go_ret
      exact ⟨rfl, HB2.out⟩
    · have hzb : ((Bs.length : Int) == 0) = false := by rw [beq_eq_false_iff_ne]; exact hz1
      subst hz
      clear hz1
      go_wp2_with fail
      generalize w1.alloc (.cells #[.int .i64 1, .int .i64 2, .int .i64 3, .int .i64 4, .int .i64 5, .int .i64 6, .int .i64 0, .int .i64 0, .slice A9 Es.length c9] 24) = W1 at *
      refine (awake13_any _).mono ?_
      rintro e w2 ⟨rfl, hb⟩
      have HB2 := Lib.hid (HB1.out.trans (hb.mono HB1.out.size))
      clear hb
      go_wp2_with fail
      go_ret
      exact ⟨rfl, HB2.out⟩
  · have hz1 : ¬ (Bs.length : Int) = 0 := by omega
    have hz2 : ¬ bits = 0 := by omega
    have hzb : ((Bs.length : Int) == 0) = false := by rw [beq_eq_false_iff_ne]; exact hz1
    have hzc : (bits == 0) = false := by rw [beq_eq_false_iff_ne]; exact hz2
    have hpl := placeOf_bd at_ ((Bs.length : Int) * 256 - 4) (by omega)
    have PL := Lib.hid (place_any at_ ((Bs.length : Int) * 256 - 4))
    generalize placeOf at_ ((Bs.length : Int) * 256 - 4) = kl at *
    obtain ⟨kp, rfl⟩ := Int.eq_ofNat_of_zero_le hpl.1
    have HFL := Lib.hid (chunk_four hs (kp + 256) (by omega) (by omega) bits c0 c1 hz2)
    have HSB : Hid (s.length ≤ 6400) := by unfold Hid; omega
    have HLI : Hid ((s.length : Int) = 256 * (1 + (Bs.length : Int))) := by unfold Hid; omega
    have HKP : Hid (kp + 256 + 4 ≤ s.length) := by unfold Hid; omega
    have hbl1 : (Bs.length : Int) ≤ 24 := by omega
    have hbl0 : 1 ≤ (Bs.length : Int) := by omega
    clear hr hin hs hnb hz1 hz2 hsl hbl hel
    go_enter Try.func15, Try.ntmps15
    go_wp2_with fail
    refine HMD.out.mono ?_
    rintro e w1 ⟨hb, A9, c9, A, c, rfl, ho, hobs⟩
    have HB1 := Lib.hid (hb.alloc hb.size (.cells #[.int .i64 1, .int .i64 2, .int .i64 3, .int .i64 4, .int .i64 5, .int .i64 6, .int .i64 0, .int .i64 0, .slice A9 Es.length c9] 24))
    have HF9 := Lib.hid (Fr.one w1 #[.int .i64 1, .int .i64 2, .int .i64 3, .int .i64 4, .int .i64 5, .int .i64 6, .int .i64 0, .int .i64 0, .slice A9 Es.length c9] 24)
    have HE1 := Lib.hid (ho.reads.below HF9.out.bel)
    have HS1 := Lib.hid (hobs.reads.below HF9.out.bel)
    clear hb ho hobs HMD
    go_upto_region 4 with fail
    generalize hW1 : w1.alloc (.cells #[.int .i64 1, .int .i64 2, .int .i64 3, .int .i64 4, .int .i64 5, .int .i64 6, .int .i64 0, .int .i64 0, .slice A9 Es.length c9] 24) = W1 at *
    clear hW1
    have e9 : ∀ j : Nat, W1.cell? ⟨w1.heap.size, j, none⟩ = (#[.int .i64 1, .int .i64 2, .int .i64 3, .int .i64 4, .int .i64 5, .int .i64 6, .int .i64 0, .int .i64 0, .slice A9 Es.length c9] : Array Value)[j]? := HF9.out.cells (i := 0) rfl rfl
    go_wp2_with fail
    refine (make_val hdM _ Es _ Bs (some s) _ HE1.out HS1.out (by have := HEL.out; omega) (by have := HBL.out; omega) HP.out).mono ?_
    rintro e w5 ⟨rfl, hb⟩
    have HB5 := Lib.hid (HB1.out.trans (hb.mono HB1.out.size))
    clear hb e9 HB1 HF9 HE1 HS1
    simp only [Option.getD_some, Option.isSome_some]
    have hlb : ((s.length : Int) != 256 * (1 + (Bs.length : Int))) = false := by rw [bne_eq_false_iff_eq]; exact HLI.out
    go_upto_region 7 with fail
    clear hlb
    go_wp2_with fail
    refine (PL.out _ b0 b1 (by omega) (by omega)).mono ?_
    rintro e w6 ⟨rfl, rfl⟩
    have hcv : ∀ W : World, (convert 9 38 (.string (bs s))).run Try.prog W = .ok (.slice (some ⟨W.heap.size, 0, none⟩) s.length (grownCap W s.length 0 5)) (Lib.bytesWorld W 5 (bs s)) := fun W => by
      have h1 := Lib.run_convert_string_bytes (P := Try.prog) W 9 38 5 (bs s) Try.underlying9 Try.underlying38 Try.underlying5
      rw [bs_size] at h1; exact h1
    go_upto_region 9 with fail
    clear hcv PL b0 b1
    have hC9 : ∀ j, j < s.length → (Lib.bytesWorld w5 5 (bs s)).cell? ⟨w5.heap.size, j, none⟩ = some (.int .u8 (vB (nth s j))) := fun j hj => bytes_cell w5 5 s j hj
    have hF9 : ∀ j, j < s.length → (Lib.bytesWorld w5 5 (bs s)).frozen? ⟨w5.heap.size, j, none⟩ = false := fun j hj => bytes_free w5 5 s j hj
    have HB9 : Hid (Below w.heap.size w (Lib.bytesWorld w5 5 (bs s))) := HB5.out.trans ((bytes_below w5 5 (bs s)).mono HB5.out.size)
    have HG9 : Hid (w.heap.size ≤ w5.heap.size) := HB5.out.size
    have hcap : s.length ≤ grownCap w5 s.length 0 5 := grownCap_ge _ _ _ _
    generalize Lib.bytesWorld w5 5 (bs s) = W9 at *
    generalize grownCap w5 s.length 0 5 = cap at *
    have C9 := Lib.hid hC9
    have F9 := Lib.hid hF9
    clear hC9 hF9 HB5
    go_wp2_with fail
    go_loopw [13] (fun i wr => ∃ k : Nat, k ≤ 4 ∧ i = .int .i64 k ∧ (∀ j, j < s.length → wr.cell? ⟨w5.heap.size, j, none⟩ = some (.int .u8 (vB (nth (four s (kp + 256) bits k) j)))) ∧ (∀ j, j < s.length → wr.frozen? ⟨w5.heap.size, j, none⟩ = false) ∧ Below w.heap.size w wr) (fun i _ => 4 - (intOf i).toNat)
    case atStart => exact ⟨0, by omega, rfl, C9.out, F9.out, HB9.out⟩
    clear C9 F9 HB9
    case round =>
      obtain ⟨k, hk4, rfl, hC, hF, hb⟩ := hrel
      have C := Lib.hid hC
      have F := Lib.hid hF
      have HB := Lib.hid hb
      clear hC hF hb
      have hkp := HKP.out
      by_cases hlt : k < 4
      · have hc := C.out (kp + 256 + k) (by omega)
        have hf := F.out (kp + 256 + k) (by omega)
        have hvb := vB_bd (nth (four s (kp + 256) bits k) (kp + 256 + k))
        have hsi : ((kp + 256 + k : Nat) : Int) < (s.length : Int) := by omega
        have HXE : Hid (Go.bits BinOp.xor IntKind.u8 (vB (nth (four s (kp + 256) bits k) (kp + 256 + k))) (bits / 2 ^ (8 * k) % 256) = vB (nth s (kp + 256 + k) ^^^ xB bits k)) := by
          unfold Hid
          rw [four_nth s (kp + 256) bits k (by omega), if_neg (by omega), ← vB_low (bits / 2 ^ (8 * k)), vB_xor]; rfl
        go_wp2_with fail
        rw [HXE.out]
        have HC2 : Hid (∀ j, j < s.length → (wr.setCell ⟨w5.heap.size, kp + 256 + k, none⟩ (.int .u8 (vB (nth s (kp + 256 + k) ^^^ xB bits k)))).cell? ⟨w5.heap.size, j, none⟩ = some (.int .u8 (vB (nth (four s (kp + 256) bits (k + 1)) j)))) := fun j hj =>
          set_cell (T := four s (kp + 256) bits k) (fun j hj => C.out j (by rwa [four_len] at hj)) (by rw [four_len]; omega) _ j (by rw [four_len]; exact hj)
        have HF2 : Hid (∀ j, j < s.length → (wr.setCell ⟨w5.heap.size, kp + 256 + k, none⟩ (.int .u8 (vB (nth s (kp + 256 + k) ^^^ xB bits k)))).frozen? ⟨w5.heap.size, j, none⟩ = false) := fun j hj =>
          (World.frozen?_setCell _ _ _ _).trans (F.out j hj)
        have HB2 := Lib.hid (HB.out.setCell (p := ⟨w5.heap.size, kp + 256 + k, none⟩) HG9.out (.int .u8 (vB (nth s (kp + 256 + k) ^^^ xB bits k))))
        clear hc hf hvb
        go_roundw
        case rel => exact ⟨k + 1, by omega, by go_num, HC2.out, HF2.out, HB2.out⟩
        case measure => simp only [intOf]; omega
      · obtain rfl : k = 4 := by omega
        have HTL' : Hid ((four s (kp + 256) bits 4).length = s.length) := four_len _ _ _ _
        generalize four s (kp + 256) bits 4 = T' at *
        have hcv1 : (convert 38 9 (.slice (some ⟨w5.heap.size, 0, none⟩) s.length cap)).run Try.prog wr = .ok (.string (bs T')) wr := by
          have h1 := conv_bytes wr w5.heap.size 0 cap T' (fun j hj => by rw [Nat.zero_add]; exact C.out j (by rw [HTL'.out] at hj; exact hj))
          rwa [HTL'.out] at h1
        clear C F hpl hkp
        go_wp2_with fail
        refine (parse_none T' _ (by have := HSB.out; rw [HTL'.out]; omega) HFL.out).mono ?_
        rintro e w11 ⟨rfl, hb⟩
        have HB11 := Lib.hid ((HB.out.trans (hb.mono HB.out.size)).alloc (HB.out.trans (hb.mono HB.out.size)).size (.cells #[.int .i64 0, .int .i64 0, .int .i64 0, .int .i64 0, .int .i64 0, .int .i64 0, .int .i64 0, .int .i64 0, .slice none 0 0] 24))
        clear hb HB hcv1
        go_wp2_with fail
        generalize w11.alloc (.cells #[.int .i64 0, .int .i64 0, .int .i64 0, .int .i64 0, .int .i64 0, .int .i64 0, .int .i64 0, .int .i64 0, .slice none 0 0] 24) = W11 at *
        refine (awake13_any _).mono ?_
        rintro e w14 ⟨rfl, hb⟩
        have HB14 := Lib.hid (HB11.out.trans (hb.mono HB11.out.size))
        clear hb
        go_wp2_with fail
        go_ret
        exact ⟨rfl, HB14.out⟩
end
end Go.Proofs.Ytjoplgdcpihmaaa
