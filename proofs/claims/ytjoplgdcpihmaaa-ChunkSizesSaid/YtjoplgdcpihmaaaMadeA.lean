/- Houses by numbers (made). -/
import Derived.Test.YtjoplgdcpihmaaaLimA
import Derived.Test.YtjoplgdcpihmaaaHS2
namespace Go.Proofs.Ytjoplgdcpihmaaa
open Go.RowKit
def inI (x : Int) : Prop := -9223372036854775808 ≤ x ∧ x ≤ 9223372036854775807
theorem madeK_done (l : List Int) (k : Nat) (h : k = 16 ∨ k = l.length) : madeK l k = madeK l 16 := by
  unfold madeK
  apply List.map_congr_left
  intro j hj
  have hj := List.mem_range.1 hj
  by_cases h2 : j < l.length
  · by_cases h3 : j < k
    · rw [if_pos ⟨h3, h2⟩, if_pos ⟨hj, h2⟩]
    · omega
  · rw [if_neg (by omega), if_neg (by omega)]
theorem EH_at2 {W : World} {base lb c n : Nat} {l : List HM} (h : EH.Own W base (.slice (some ⟨lb, 0, none⟩) n c) l) (hn : l.length = n) (i : Nat) (x : HM) (hi : l[i]? = some x) (j : Nat) (u : Value) (hu : (EH.enc x)[j]? = some u) : W.cell? ⟨lb, i * 10 + j, none⟩ = some u ∧ W.frozen? ⟨lb, i * 10 + j, none⟩ = false := h.atAddr hn.symm i x hi j u hu
namespace HSt
variable {W W' : World} {base lb c n : Nat} {l : List HM}
theorem field' (h : HSt W base (.slice (some ⟨lb, 0, none⟩) n c) l) (hn : l.length = n) (i : Nat) (x : HM) (hi : l[i]? = some x) (k : Nat) (hk : k < 9) (u : Int) : HSt (W.setCell ⟨lb, i * 10 + k, none⟩ (.int .i64 u)) base (.slice (some ⟨lb, 0, none⟩) n c) (l.set i ⟨setF x.d k u, x.A, x.c⟩) := by
  subst hn; exact h.field i x hi k hk u
theorem segset' (h : HSt W base (.slice (some ⟨lb, 0, none⟩) n c) l) (hn : l.length = n) (i : Nat) (x : HM) (hi : l[i]? = some x) (hg : W.grownBy W' (Value.slice x.A x.d.segs.length x.c).ownBlock)
    (A' : Option Addr) (c' : Nat) (S : List Int) (ho : EI.Own W' base (.slice A' S.length c') S) (hat : (Value.slice A' S.length c').ownBlock = (Value.slice x.A x.d.segs.length x.c).ownBlock ∨ ∃ k, (Value.slice A' S.length c').ownBlock = some k ∧ W.heap.size ≤ k) :
    HSt (W'.setCell ⟨lb, i * 10 + 9, none⟩ (.slice A' S.length c')) base (.slice (some ⟨lb, 0, none⟩) n c) (l.set i ⟨⟨x.d.st, x.d.gn, x.d.x, S⟩, A', c'⟩) := by
  subst hn; exact h.segset i x hi hg rfl A' c' S ho hat
theorem own_after' (h : HSt W base (.slice (some ⟨lb, 0, none⟩) n c) l) (hn : l.length = n) (i : Nat) (x : HM) (hi : l[i]? = some x) (hg : W.grownBy W' (Value.slice x.A x.d.segs.length x.c).ownBlock) : EH.Own W' base (.slice (some ⟨lb, 0, none⟩) n c) l := by
  subst hn; exact h.own_after i x hi hg
theorem seg_ge (h : HSt W base (.slice (some ⟨lb, 0, none⟩) n c) l) {x : HM} (hx : x ∈ l) : ∀ k, (Value.slice x.A x.d.segs.length x.c).ownBlock = some k → base ≤ k := fun k e => ((h.segs x hx).lt k e).1
end HSt
theorem set_get {l : List HM} {n k : Nat} (hn : l.length = n) (hk : k < n) (x : HM) : (l.set k x)[k]? = some x := List.getElem?_set_self (by omega)
section
attribute [local go_sem ↓] Go.wp_at_zero Go.wp_at_succ
set_option maxRecDepth 100000 in
set_option maxHeartbeats 8000000 in
theorem made_any (v : Value) (L : List Int) (w : World) (hr : EI.Reads w v L) (hin : ∀ x ∈ L, inI x) (hl : L.length ≤ 9223372036854775807) :
    Calls Try.prog 51 #[v] w fun e w' => Below w.heap.size w w' ∧ ∃ lb l, e = .returned (.slice (some ⟨lb, 0, none⟩) 16 16) ∧ l.map (·.d) = madeK L 16 ∧ l.length = 16 ∧ HSt w' w.heap.size (.slice (some ⟨lb, 0, none⟩) 16 16) l := by
  have hr' := hr
  obtain ⟨A0, c0, rfl, hc0, -⟩ := hr'
  have HR := Lib.hid hr
  have HIN : Hid (∀ k, k < L.length → inI (nthI L k)) := fun k hk => by
    have : nthI L k = L[k] := by simp only [nthI, List.getD_eq_getElem?_getD, List.getElem?_eq_getElem hk, Option.getD_some]
    rw [this]; exact hin _ (List.getElem_mem hk)
  obtain ⟨C, hmk, hown⟩ := El.mk_row EH ⟨hd0, none, 0⟩ rfl 16 (by decide) (by decide) w.heap.size w (Nat.le_refl _)
  have hmk' : (Instr.makeSlice 46 (.int .i64 16) (.int .i64 16)).run Try.prog w = .ok (.slice (some ⟨w.heap.size, 0, none⟩) 16 16) (w.alloc (.cells C 61)) := hmk
  have HB := Lib.hid ((Below.refl w.heap.size w).alloc (Nat.le_refl _) (.cells C 61))
  have HS : Hid (HSt (w.alloc (.cells C 61)) w.heap.size (.slice (some ⟨w.heap.size, 0, none⟩) 16 16) (List.replicate 16 ⟨hd0, none, 0⟩)) := HSt.of_zeros hown
  clear hmk hown hin hr
  go_enter Try.func51, Try.ntmps51
  go_wp2_with fail
  clear hmk'
  generalize w.alloc (.cells C 61) = W1 at *
  go_loopw [4, 5] (fun nx i wr => ∃ (k : Nat) (l : List HM), k ≤ 16 ∧ k ≤ L.length ∧ i = .int .i64 k ∧ nx = .int .i64 (nxAt L k) ∧ l.map (·.d) = madeK L k ∧ l.length = 16 ∧ HSt wr w.heap.size (.slice (some ⟨w.heap.size, 0, none⟩) 16 16) l ∧ Below w.heap.size w wr) (fun _ i _ => 16 - (intOf i).toNat)
  case atStart => exact ⟨0, _, by omega, by omega, rfl, rfl, by rw [madeK_zero]; simp, rfl, HS.out, HB.out⟩
  clear HS HB
  case round =>
    obtain ⟨k, l, hk16, hkl, rfl, rfl, hd, hln, hs, hb⟩ := hrel
    obtain ⟨wk, rfl⟩ : ∃ wk, wk = wr := ⟨wr, rfl⟩
    have HDD := Lib.hid hd
    have HLN := Lib.hid hln
    have HS := Lib.hid hs
    have HB := Lib.hid hb
    clear hd hln hs hb
    have hnb := nxAt_bd L k
    by_cases hlt : k < L.length
    · by_cases h16 : k < 16
      · obtain ⟨b, o, c', hv, hbw, e0⟩ := EI_at (HR.out.below HB.out) k hlt
        simp only [Value.slice.injEq] at hv
        obtain ⟨rfl, -, rfl⟩ := hv
        have hvb := placeOf_bd (nthI L k) 1048576 (by decide)
        have hx := HIN.out k hlt
        obtain ⟨⟨dk, Ak, ck⟩, hxk⟩ : ∃ x, l[k]? = some x := ⟨_, List.getElem?_eq_getElem (by rw [HLN.out]; exact h16)⟩
        have hdk : dk = hd0 := by
          have e1 := congrArg (fun M : List HD => M[k]?) HDD.out
          simp only [List.getElem?_map, hxk, Option.map_some] at e1
          rw [madeK_at L k k h16, if_neg (by omega)] at e1
          injection e1
        subst hdk
        have HX := Lib.hid hxk
        clear hxk
        have HK := Lib.hid (And.intro hlt h16)
        go_wp2_with fail
        refine (place_any _ 1048576 _ hx.1 hx.2 (by decide) (by decide)).mono ?_
        rintro e w2 ⟨rfl, rfl⟩
        have hmv : placeOf (nthI L k) 1048576 = mkV (nthI L k) := rfl
        rw [hmv] at hvb ⊢
        clear hmv e0
        have g1 := EH_at2 HS.out.own HLN.out k _ HX.out 1 _ rfl
        go_upto_region 8 with fail
        have HS2 := Lib.hid (HS.out.field' HLN.out k _ HX.out 1 (by decide) (mkV (nthI L k) % 65536))
        have HB2 := Lib.hid (HB.out.setCell (p := ⟨w.heap.size, k * 10 + 1, none⟩) (Nat.le_refl _) (.int .i64 (mkV (nthI L k) % 65536)))
        have HX2 : Hid ((l.set k ⟨setF hd0 1 (mkV (nthI L k) % 65536), Ak, ck⟩)[k]? = some _) := set_get HLN.out h16 _
        have HL2 : Hid ((l.set k ⟨setF hd0 1 (mkV (nthI L k) % 65536), Ak, ck⟩).length = 16) := by unfold Hid; rw [List.length_set]; exact HLN.out
        generalize wk.setCell ⟨w.heap.size, k * 10 + 1, none⟩ (.int .i64 (mkV (nthI L k) % 65536)) = W2 at *
        clear g1 HS HB
        by_cases h3 : mkV (nthI L k) % 3 = 0
        · have h3b : (mkV (nthI L k) % 3 == 0) = true := by simpa using h3
          have HH : Hid (mkH (nxAt L k) (nthI L k) = setF hd0 1 (mkV (nthI L k) % 65536)) := by unfold Hid mkH; rw [if_pos h3]; rfl
          have HNX : Hid (nxAt L (k + 1) = nxAt L k) := by unfold Hid; show mkNx _ _ = _; unfold mkNx; rw [if_pos h3]
          clear h3 hx
          go_wp2_with fail
          go_roundw
          case rel => exact ⟨k + 1, _, by omega, by omega, by go_num, by rw [HNX.out], by rw [List.map_set, HDD.out, madeK_succ L k HK.out.2 HK.out.1, HH.out], HL2.out, HS2.out, HB2.out⟩
          case measure => simp only [intOf]; omega
        · have h3b : (mkV (nthI L k) % 3 == 0) = false := by simpa using h3
          have H3 := Lib.hid h3
          clear h3
          obtain ⟨b2, o2, c2', hv, hbw2, e0⟩ := EI_at (HR.out.below HB2.out) k hlt
          simp only [Value.slice.injEq, Option.some.injEq, Addr.mk.injEq, and_true] at hv
          obtain ⟨⟨rfl, rfl⟩, -, rfl⟩ := hv
          go_wp2_with fail
          refine (limit_any _ _ hx.1 hx.2).mono ?_
          rintro e w3 ⟨rfl, hb⟩
          have HS3 := Lib.hid (HS2.out.below hb)
          have HB3 := Lib.hid (HB2.out.trans (hb.mono HB2.out.size))
          clear hb e0 HS2 HB2 hx
          have hsg := limOf_sg (nthI L k)
          unfold limV
          have g0 := EH_at2 HS3.out.own HL2.out k _ HX2.out 0 _ rfl
          have g1 := EH_at2 HS3.out.own HL2.out k _ HX2.out 1 _ rfl
          have g2 := EH_at2 HS3.out.own HL2.out k _ HX2.out 2 _ rfl
          have g3 := EH_at2 HS3.out.own HL2.out k _ HX2.out 3 _ rfl
          have g4 := EH_at2 HS3.out.own HL2.out k _ HX2.out 4 _ rfl
          have g5 := EH_at2 HS3.out.own HL2.out k _ HX2.out 5 _ rfl
          have g6 := EH_at2 HS3.out.own HL2.out k _ HX2.out 6 _ rfl
          have g7 := EH_at2 HS3.out.own HL2.out k _ HX2.out 7 _ rfl
          have g8 := EH_at2 HS3.out.own HL2.out k _ HX2.out 8 _ rfl
          have g9 := EH_at2 HS3.out.own HL2.out k _ HX2.out 9 _ rfl
          simp only [Nat.add_zero] at g0
          go_upto_region 10 with fail
          have HS4 : Hid (HSt ((((((((((w3.setCell ⟨w.heap.size, k * 10, none⟩ (.int .i64 (1 + mkV (nthI L k) % 2))).setCell ⟨w.heap.size, k * 10 + 1, none⟩ (.int .i64 (1 + mkV (nthI L k) % 65535))).setCell ⟨w.heap.size, k * 10 + 2, none⟩ (.int .i64 (limOf (nthI L k)).sg)).setCell ⟨w.heap.size, k * 10 + 3, none⟩ (.int .i64 (limOf (nthI L k)).hb)).setCell ⟨w.heap.size, k * 10 + 4, none⟩ (.int .i64 (limOf (nthI L k)).sb)).setCell ⟨w.heap.size, k * 10 + 5, none⟩ (.int .i64 (limOf (nthI L k)).hn)).setCell ⟨w.heap.size, k * 10 + 6, none⟩ (.int .i64 (limOf (nthI L k)).sn)).setCell ⟨w.heap.size, k * 10 + 7, none⟩ (.int .i64 (limOf (nthI L k)).gr)).setCell ⟨w.heap.size, k * 10 + 8, none⟩ (.int .i64 (limOf (nthI L k)).bu)).setCell ⟨w.heap.size, k * 10 + 9, none⟩ (.slice none 0 0)) w.heap.size (.slice (some ⟨w.heap.size, 0, none⟩) 16 16) (l.set k ⟨⟨1 + mkV (nthI L k) % 2, 1 + mkV (nthI L k) % 65535, limOf (nthI L k), mkSegs (nxAt L k) (mkStep (nthI L k)) 0⟩, none, 0⟩)) := by
            have h := HS3.out
            rw [← HL2.out] at h
            have h2 := h.put k _ ⟨⟨1 + mkV (nthI L k) % 2, 1 + mkV (nthI L k) % 65535, limOf (nthI L k), mkSegs (nxAt L k) (mkStep (nthI L k)) 0⟩, none, 0⟩ HX2.out ⟨rfl, rfl, rfl⟩
            rw [HL2.out, List.set_set] at h2
            exact h2
          have HB4 : Hid (Below w.heap.size w ((((((((((w3.setCell ⟨w.heap.size, k * 10, none⟩ (.int .i64 (1 + mkV (nthI L k) % 2))).setCell ⟨w.heap.size, k * 10 + 1, none⟩ (.int .i64 (1 + mkV (nthI L k) % 65535))).setCell ⟨w.heap.size, k * 10 + 2, none⟩ (.int .i64 (limOf (nthI L k)).sg)).setCell ⟨w.heap.size, k * 10 + 3, none⟩ (.int .i64 (limOf (nthI L k)).hb)).setCell ⟨w.heap.size, k * 10 + 4, none⟩ (.int .i64 (limOf (nthI L k)).sb)).setCell ⟨w.heap.size, k * 10 + 5, none⟩ (.int .i64 (limOf (nthI L k)).hn)).setCell ⟨w.heap.size, k * 10 + 6, none⟩ (.int .i64 (limOf (nthI L k)).sn)).setCell ⟨w.heap.size, k * 10 + 7, none⟩ (.int .i64 (limOf (nthI L k)).gr)).setCell ⟨w.heap.size, k * 10 + 8, none⟩ (.int .i64 (limOf (nthI L k)).bu)).setCell ⟨w.heap.size, k * 10 + 9, none⟩ (.slice none 0 0))) := HB3.out.grown (grown_setc (grown_setc (grown_setc (grown_setc (grown_setc (grown_setc (grown_setc (grown_setc (grown_setc (grown_setc (grown_same _ _) _ _) _ _) _ _) _ _) _ _) _ _) _ _) _ _) _ _) _ _ : w3.grownBy ((((((((((w3.setCell ⟨w.heap.size, k * 10, none⟩ (.int .i64 (1 + mkV (nthI L k) % 2))).setCell ⟨w.heap.size, k * 10 + 1, none⟩ (.int .i64 (1 + mkV (nthI L k) % 65535))).setCell ⟨w.heap.size, k * 10 + 2, none⟩ (.int .i64 (limOf (nthI L k)).sg)).setCell ⟨w.heap.size, k * 10 + 3, none⟩ (.int .i64 (limOf (nthI L k)).hb)).setCell ⟨w.heap.size, k * 10 + 4, none⟩ (.int .i64 (limOf (nthI L k)).sb)).setCell ⟨w.heap.size, k * 10 + 5, none⟩ (.int .i64 (limOf (nthI L k)).hn)).setCell ⟨w.heap.size, k * 10 + 6, none⟩ (.int .i64 (limOf (nthI L k)).sn)).setCell ⟨w.heap.size, k * 10 + 7, none⟩ (.int .i64 (limOf (nthI L k)).gr)).setCell ⟨w.heap.size, k * 10 + 8, none⟩ (.int .i64 (limOf (nthI L k)).bu)).setCell ⟨w.heap.size, k * 10 + 9, none⟩ (.slice none 0 0)) (some w.heap.size)) HB3.out.size (fun r e => by injection e with e; omega)
          clear g0 g1 g2 g3 g4 g5 g6 g7 g8 g9 HS3 HB3
          generalize ((((((((((w3.setCell ⟨w.heap.size, k * 10, none⟩ (.int .i64 (1 + mkV (nthI L k) % 2))).setCell ⟨w.heap.size, k * 10 + 1, none⟩ (.int .i64 (1 + mkV (nthI L k) % 65535))).setCell ⟨w.heap.size, k * 10 + 2, none⟩ (.int .i64 (limOf (nthI L k)).sg)).setCell ⟨w.heap.size, k * 10 + 3, none⟩ (.int .i64 (limOf (nthI L k)).hb)).setCell ⟨w.heap.size, k * 10 + 4, none⟩ (.int .i64 (limOf (nthI L k)).sb)).setCell ⟨w.heap.size, k * 10 + 5, none⟩ (.int .i64 (limOf (nthI L k)).hn)).setCell ⟨w.heap.size, k * 10 + 6, none⟩ (.int .i64 (limOf (nthI L k)).sn)).setCell ⟨w.heap.size, k * 10 + 7, none⟩ (.int .i64 (limOf (nthI L k)).gr)).setCell ⟨w.heap.size, k * 10 + 8, none⟩ (.int .i64 (limOf (nthI L k)).bu)).setCell ⟨w.heap.size, k * 10 + 9, none⟩ (.slice none 0 0)) = W4 at *
          have HST : Hid (mkV (nthI L k) / 7 % 3 = mkStep (nthI L k) - 1) := by unfold Hid mkStep; omega
          have hst := mkStep_bd (nthI L k)
          go_wp2_with fail
          go_loopw [4, 7] (fun nx jj wi => ∃ (m : Nat) (z : Int) (A : Option Addr) (c : Nat), m ≤ (limOf (nthI L k)).sg.toNat ∧ jj = .int .i64 m ∧ nx = .int .i64 z ∧ z = nxAt L k + m * mkStep (nthI L k) ∧ (0 ≤ z ∧ z ≤ 33 * k + 3 * m) ∧ HSt wi w.heap.size (.slice (some ⟨w.heap.size, 0, none⟩) 16 16) (l.set k ⟨⟨1 + mkV (nthI L k) % 2, 1 + mkV (nthI L k) % 65535, limOf (nthI L k), mkSegs (nxAt L k) (mkStep (nthI L k)) m⟩, A, c⟩) ∧ Below w.heap.size w wi) (fun _ jj _ => 11 - (intOf jj).toNat)
          case atStart => exact ⟨0, _, none, 0, by omega, rfl, rfl, by omega, by omega, HS4.out, HB4.out⟩
          clear HS4 HB4
          case round =>
            obtain ⟨m, z, A, c, hm, rfl, rfl, hz, hzb, hs, hb⟩ := hrel
            have HZ := Lib.hid hz
            have HS := Lib.hid hs
            have HB := Lib.hid hb
            have HXM : Hid ((l.set k ⟨⟨1 + mkV (nthI L k) % 2, 1 + mkV (nthI L k) % 65535, limOf (nthI L k), mkSegs (nxAt L k) (mkStep (nthI L k)) m⟩, A, c⟩)[k]? = some _) := set_get HLN.out h16 _
            have HLM : Hid ((l.set k ⟨⟨1 + mkV (nthI L k) % 2, 1 + mkV (nthI L k) % 65535, limOf (nthI L k), mkSegs (nxAt L k) (mkStep (nthI L k)) m⟩, A, c⟩).length = 16) := by unfold Hid; rw [List.length_set]; exact HLN.out
            have HO : Hid (EI.Own wr w.heap.size (.slice A (mkSegs (nxAt L k) (mkStep (nthI L k)) m).length c) (mkSegs (nxAt L k) (mkStep (nthI L k)) m)) := hs.segs _ (List.mem_of_getElem? HXM.out)
            clear hz hs hb
            have g2 := EH_at2 HS.out.own HLM.out k _ HXM.out 2 _ rfl
            have g9 := EH_at2 HS.out.own HLM.out k _ HXM.out 9 _ rfl
            by_cases hmm : (m : Int) < (limOf (nthI L k)).sg
            · have HSL : Hid ((mkSegs (nxAt L k) (mkStep (nthI L k)) m).length = m) := mkSegs_len _ _ _
              have HY : Hid (mkSegs (nxAt L k) (mkStep (nthI L k)) (m + 1) = mkSegs (nxAt L k) (mkStep (nthI L k)) m ++ [z + 1 + mkV (nthI L k) / 7 % 3]) := by
                unfold Hid
                rw [mkSegs_succ, HZ.out, HST.out, Int.add_mul, Int.one_mul]
                congr 2
                omega
              have HZ2 : Hid (z + 1 + mkV (nthI L k) / 7 % 3 = nxAt L k + ((m + 1 : Nat) : Int) * mkStep (nthI L k)) := by
                unfold Hid
                rw [HZ.out, HST.out, Int.natCast_add, Int.add_mul, show ((1 : Nat) : Int) = 1 from rfl, Int.one_mul]
                omega
              have HSZ : Hid (w.heap.size ≤ wr.heap.size) := HB.out.size
              go_wp2_with (at_builtin; refine EI.app (w0 := wr) rfl _ _ rfl w.heap.size (.slice A (mkSegs (nxAt L k) (mkStep (nthI L k)) m).length c) (mkSegs (nxAt L k) (mkStep (nthI L k)) m) (z + 1 + mkV (nthI L k) / 7 % 3) rfl HO.out rfl _ rfl ?cb ?cm HSZ.out (Below.refl _ _ |>.mono HSZ.out) ?_; (case cb => rw [HSL.out]; simp only [EI]; omega); (case cm => rw [HSL.out]; omega); intro v' w1 ho _ hg hat; obtain ⟨A', c', rfl, -⟩ := ho.reads; have g9' := EH_at2 (HS.out.own_after' HLM.out k _ HXM.out hg) HLM.out k _ HXM.out 9 _ rfl; have HSG := Lib.hid (HS.out.segset' HLM.out k _ HXM.out hg A' c' (mkSegs (nxAt L k) (mkStep (nthI L k)) m ++ [z + 1 + mkV (nthI L k) / 7 % 3]) ho hat); have HBG := Lib.hid (HB.out.grown hg HSZ.out (fun r e => (HO.out.lt r e).1)); clear ho hg hat)
              have HS' : Hid (HSt (w1.setCell ⟨w.heap.size, k * 10 + 9, none⟩ (.slice A' ((mkSegs (nxAt L k) (mkStep (nthI L k)) m).length + 1) c')) w.heap.size (.slice (some ⟨w.heap.size, 0, none⟩) 16 16) (l.set k ⟨⟨1 + mkV (nthI L k) % 2, 1 + mkV (nthI L k) % 65535, limOf (nthI L k), mkSegs (nxAt L k) (mkStep (nthI L k)) (m + 1)⟩, A', c'⟩)) := by
                have := HSG.out
                rw [List.set_set, List.length_append, List.length_singleton, ← HY.out] at this
                exact this
              have HB' : Hid (Below w.heap.size w (w1.setCell ⟨w.heap.size, k * 10 + 9, none⟩ (.slice A' ((mkSegs (nxAt L k) (mkStep (nthI L k)) m).length + 1) c'))) := HBG.out.setCell (Nat.le_refl _) _
              clear g9' g9 g2
              go_roundw
              case rel => exact ⟨m + 1, _, A', c', by omega, by go_num, rfl, HZ2.out, by omega, HS'.out, HB'.out⟩
              case measure => simp only [intOf]; omega
            · have hme : m = (limOf (nthI L k)).sg.toNat := by omega
              have HNX : Hid (nxAt L (k + 1) = z) := by
                unfold Hid
                show mkNx _ _ = _
                unfold mkNx
                rw [if_neg H3.out, HZ.out, hme, show (((limOf (nthI L k)).sg.toNat : Nat) : Int) = (limOf (nthI L k)).sg by omega]
              have HH : Hid (mkH (nxAt L k) (nthI L k) = ⟨1 + mkV (nthI L k) % 2, 1 + mkV (nthI L k) % 65535, limOf (nthI L k), mkSegs (nxAt L k) (mkStep (nthI L k)) m⟩) := by unfold Hid mkH; rw [if_neg H3.out, hme]
              go_wp2_with fail
              go_roundw
              case rel => exact ⟨k + 1, _, by omega, by omega, by go_num, by rw [HNX.out], by rw [List.map_set, HDD.out, madeK_succ L k HK.out.2 HK.out.1, HH.out], HLM.out, HS.out, HB.out⟩
              case measure => simp only [intOf]; omega
      · obtain rfl : k = 16 := by omega
        go_wp2_with fail
        go_ret
        exact ⟨HB.out, _, _, rfl, HDD.out, HLN.out, HS.out⟩
    · have hke : k = L.length := by omega
      have HDE : Hid (madeK L k = madeK L 16) := madeK_done L k (.inr hke)
      go_wp2_with fail
      go_ret
      exact ⟨HB.out, _, _, rfl, by rw [HDD.out, HDE.out], HLN.out, HS.out⟩
end
end Go.Proofs.Ytjoplgdcpihmaaa
