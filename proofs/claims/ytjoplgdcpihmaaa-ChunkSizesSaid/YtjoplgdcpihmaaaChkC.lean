/- Chunks: awake, chunks by numbers, same strings. -/
import Derived.Test.YtjoplgdcpihmaaaChkB
import Derived.Test.YtjoplgdcpihmaaaMadeA
import Derived.Test.YtjoplgdcpihmaaaHS2
import Derived.BigQuiet
import Derived.Deep.QuietTactic
import Derived.Test.YtjoplgdcpihmaaaTabC
namespace Go.Proofs.Ytjoplgdcpihmaaa
open Go.RowKit
theorem parse_some (s : List UInt8) (h : Hd) (l : List Ent) (B : List (List UInt8)) (w : World) (hs : s.length ≤ 100000000) (hg : chunkGet s = some (h, l, B)) :
    Calls Try.prog 57 #[.string (bs s)] w fun e w' => Below w.heap.size w w' ∧ ∃ A2 c2 A c, e = .returned (.tuple #[.agg #[.int .i64 h.house, .int .i64 h.gen, .int .i64 h.life, .int .i64 h.seq, .int .i64 h.next, .int .i64 h.clock, .int .i64 h.sb, .int .i64 h.sn, .slice A2 l.length c2], .slice A B.length c, .bool true]) ∧ EE.Own w' w.heap.size (.slice A2 l.length c2) l ∧ ES.Own w' w.heap.size (.slice A B.length c) B := by
  refine (parse_any s w hs).mono ?_
  rintro e w' ⟨hb, ⟨h1, -⟩ | ⟨h', l', B', vE, A, c, h1, h2, h3, h4, h5⟩⟩
  · rw [hg] at h1; cases h1
  · rw [hg] at h1
    simp only [Option.some.injEq, Prod.mk.injEq] at h1
    obtain ⟨rfl, rfl, rfl⟩ := h1
    obtain ⟨A2, c2, rfl, -⟩ := h2.reads
    exact ⟨hb, A2, c2, A, c, h5, h2, h3⟩
theorem parse_none (s : List UInt8) (w : World) (hs : s.length ≤ 100000000) (hg : chunkGet s = none) :
    Calls Try.prog 57 #[.string (bs s)] w fun e w' => e = .returned (.tuple #[.agg #[.int .i64 0, .int .i64 0, .int .i64 0, .int .i64 0, .int .i64 0, .int .i64 0, .int .i64 0, .int .i64 0, .slice none 0 0], .slice none 0 0, .bool false]) ∧ Below w.heap.size w w' := by
  refine (parse_any s w hs).mono ?_
  rintro e w' ⟨hb, ⟨-, h1⟩ | ⟨h', l', B', vE, A, c, h1, -⟩⟩
  · exact ⟨h1, hb⟩
  · rw [hg] at h1; cases h1
theorem make_val (h : Hd) (vE : Value) (l : List Ent) (v : Value) (B : List (List UInt8)) (r : Option (List UInt8)) (w : World) (hE : EE.Reads w vE l) (hr : ES.Reads w v B) (hl : l.length * 24 ≤ 140737488351232) (hB : B.length ≤ 100000) (hp : chunkPut h l B = r) :
    Calls Try.prog 55 #[.agg #[.int .i64 h.house, .int .i64 h.gen, .int .i64 h.life, .int .i64 h.seq, .int .i64 h.next, .int .i64 h.clock, .int .i64 h.sb, .int .i64 h.sn, vE], v] w fun e w' => e = .returned (.tuple #[.string (bs (r.getD [])), .bool r.isSome]) ∧ Below w.heap.size w w' := hp ▸ make_any h vE l v B w hE hr hl hB
theorem chunkPut_is {h : Hd} {l : List Ent} {B : List (List UInt8)} (hc : checkB h l = true) (hl : B.length = l.length) (hb : ∀ b ∈ B, b.length = 256) : ∃ s, chunkPut h l B = some s := by
  unfold chunkPut
  rw [if_pos (allB_iff.2 hb), headPut_is hc (by rw [flat_len hb]; omega)]
  exact ⟨_, rfl⟩
def hd1 : Hd := ⟨1, 1, 1, 1, 0, 0, 0, 0⟩
section
attribute [local go_sem] bs_size bs_append
attribute [local go_sem ↓] Go.wp_at_zero Go.wp_at_succ
set_option maxRecDepth 100000 in
set_option maxHeartbeats 4000000 in
theorem awake13_any (w : World) : Calls Try.prog 54 #[] w fun e w' => e = .returned (.bool true) ∧ Below w.heap.size w w' := by
  obtain ⟨s, hs⟩ := chunkPut_is (h := hd1) (l := []) (B := []) (by decide) rfl (fun b hb => by cases hb)
  have HP := Lib.hid hs
  have HG := Lib.hid (chunk_back hs [109, 111, 114, 101])
  have hsl : s.length = 256 := (chunkPut_parts hs).choose_spec.2.2.2.2.2.2
  have HSL := Lib.hid hsl
  have hsi : (s.length : Int) = 256 := by omega
  have hm : ByteArray.mk #[109, 111, 114, 101] = bs [109, 111, 114, 101] := rfl
  clear hs
  go_enter Try.func54, Try.ntmps54
  go_wp2_with fail
  refine (make_val hd1 (.slice none 0 0) [] (.slice none 0 0) [] (some s) _ (El.Reads.nil _) (El.Reads.nil _) (by decide) (by decide) HP.out).mono ?_
  rintro e w1 ⟨rfl, hb⟩
  have HB1 := Lib.hid hb
  clear hb
  simp only [Option.getD_some, Option.isSome_some]
  go_wp2_with fail
  refine (parse_some (s ++ [109, 111, 114, 101]) hd1 [] [] _ (by rw [List.length_append, HSL.out]; decide) HG.out).mono ?_
  rintro e w2 ⟨hb, A2, c2, A, c, rfl, -, -⟩
  have HB2 := Lib.hid (HB1.out.trans (hb.mono HB1.out.size))
  clear hb hm
  have HB3 := Lib.hid (HB2.out.alloc HB2.out.size (.cells #[.int .i64 1, .int .i64 1, .int .i64 1, .int .i64 1, .int .i64 0, .int .i64 0, .int .i64 0, .int .i64 0, .slice A2 0 c2] 24))
  go_wp2_with fail
  go_ret
  exact ⟨rfl, HB3.out⟩
end
section
set_option maxRecDepth 100000 in
set_option maxHeartbeats 4000000 in
theorem samestr_any (v v2 : Value) (l : List (List UInt8)) (w : World) (hr : ES.Reads w v l) (hr2 : ES.Reads w v2 l) (hl : l.length ≤ 100000) :
    Calls Try.prog 59 #[v, v2] w fun e w' => e = .returned (.bool true) ∧ Below w.heap.size w w' := by
  have hr' := hr
  obtain ⟨A, c, rfl, hc, -⟩ := hr'
  have hr' := hr2
  obtain ⟨A2, cc2, rfl, hcc2, -⟩ := hr'
  have HR := Lib.hid hr
  have HR2 := Lib.hid hr2
  have HB0 := Lib.hid (Below.refl w.heap.size w)
  clear hr hr2
  go_enter Try.func59, Try.ntmps59
  go_wp2
  go_loopw [5] (fun i wr => ∃ k : Nat, k ≤ l.length ∧ i = .int .i64 k ∧ Below w.heap.size w wr) (fun i _ => l.length - (intOf i).toNat)
  case atStart => exact ⟨0, by omega, rfl, HB0.out⟩
  clear HB0
  case round =>
    obtain ⟨k, hk, rfl, hb⟩ := hrel
    have HB := Lib.hid hb
    clear hb
    by_cases hlt : k < l.length
    · obtain ⟨x, hx⟩ : ∃ x, l[k]? = some x := ⟨_, List.getElem?_eq_getElem hlt⟩
      obtain ⟨b, o, c', hv, hbw, e0⟩ := ES_at (HR.out.below HB.out) k x hx
      obtain ⟨b2, o2, c2', hv2, hbw2, f0⟩ := ES_at (HR2.out.below HB.out) k x hx
      simp only [Value.slice.injEq] at hv hv2
      obtain ⟨rfl, -, rfl⟩ := hv
      obtain ⟨rfl, -, rfl⟩ := hv2
      clear hx
      have i0 : (0 : Int) ≤ (k : Int) := by omega
      have i1 : (k : Int) < (l.length : Int) := by omega
      go_wp2
      go_quiet (fail)
      go_wp2
      go_roundw
      case rel => exact ⟨k + 1, by omega, by go_num, below_drewN HB.out _⟩
      case measure => simp only [intOf]; omega
    · go_wp2
      go_ret
      exact ⟨rfl, HB.out⟩
end
theorem ne_after {A A2 A' : Option Addr} {n c n' c' N : Nat} (hne : ∀ a b, A = some a → A2 = some b → a.block ≠ b.block) (hat : (Value.slice A' n' c').ownBlock = (Value.slice A2 n c).ownBlock ∨ ∃ k, (Value.slice A' n' c').ownBlock = some k ∧ N ≤ k) (hlt : ∀ a, A = some a → a.block < N) : ∀ a b, A = some a → A' = some b → a.block ≠ b.block := by
  intro a b ha hb e
  rw [own_block_of, own_block_of, hb] at hat
  rcases hat with hat | ⟨k, hk, hk2⟩
  · obtain ⟨b2, hb2, e2⟩ := Option.map_eq_some_iff.1 hat.symm
    exact hne a b2 ha hb2 (e.trans e2.symm)
  · simp only [Option.map_some, Option.some.injEq] at hk
    have := hlt a ha
    omega
theorem ne_row {A A2 : Option Addr} {n c n2 c2 : Nat} (hne : ∀ a b, A = some a → A2 = some b → a.block ≠ b.block) : (Value.slice A n c).ownBlock = none ∨ (Value.slice A n c).ownBlock ≠ (Value.slice A2 n2 c2).ownBlock := by
  rw [own_block_of, own_block_of]
  cases hA : A with
  | none => exact .inl rfl
  | some a =>
    refine .inr fun e => ?_
    obtain ⟨b, hb, e2⟩ := Option.map_eq_some_iff.1 e.symm
    exact hne a b hA hb e2.symm
theorem El.Own.addr_lt {α : Type} {E : El α} {w : World} {base n c : Nat} {A : Option Addr} {l : List α} (h : E.Own w base (.slice A n c) l) : ∀ a, A = some a → base ≤ a.block ∧ a.block < w.heap.size := fun a e => h.lt a.block (by rw [own_block_of, e]; rfl)
/-! ### chunks by numbers -/
def mkE (x : Int) : Ent := ⟨1, 1 + mkV x % 255, mkV x / 255 % 588⟩
def mkB (x : Int) : List UInt8 := filled (mkV x % 1000)
def mkEs (L : List Int) (k : Nat) : List Ent := (L.take k).map mkE
def mkBs (L : List Int) (k : Nat) : List (List UInt8) := (L.take k).map mkB
def hdM : Hd := ⟨1, 2, 3, 4, 5, 6, 0, 0⟩
theorem mkEs_len (L : List Int) (k : Nat) : (mkEs L k).length = min k L.length := by simp [mkEs]
theorem mkBs_len (L : List Int) (k : Nat) : (mkBs L k).length = min k L.length := by simp [mkBs]
theorem mkEs_succ (L : List Int) (k : Nat) (h : k < L.length) : mkEs L (k + 1) = mkEs L k ++ [mkE (nthI L k)] := by unfold mkEs; rw [takeI_snoc L k h, List.map_append]; rfl
theorem mkBs_succ (L : List Int) (k : Nat) (h : k < L.length) : mkBs L (k + 1) = mkBs L k ++ [mkB (nthI L k)] := by unfold mkBs; rw [takeI_snoc L k h, List.map_append]; rfl
theorem mkEs_done (L : List Int) (k : Nat) (hk : k ≤ 24) (h : k = 24 ∨ k = L.length) : mkEs L k = mkEs L 24 ∧ mkBs L k = mkBs L 24 := by
  unfold mkEs mkBs
  rcases h with rfl | rfl
  · exact ⟨rfl, rfl⟩
  · rw [List.take_of_length_le (Nat.le_refl _), List.take_of_length_le hk]; exact ⟨rfl, rfl⟩
theorem mkM_ok (L : List Int) : checkB hdM (mkEs L 24) = true := by
  unfold checkB
  simp only [Bool.and_eq_true, decide_eq_true_eq, List.all_eq_true]
  refine ⟨⟨by decide, by rw [mkEs_len]; omega⟩, fun x hx => ?_⟩
  unfold mkEs at hx
  obtain ⟨y, -, rfl⟩ := List.mem_map.1 hx
  unfold mkE entB mostOf
  simp only [Bool.and_eq_true, inB_iff]
  refine ⟨by omega, by omega, by simp; omega, by simp⟩
theorem mkM_blocks (L : List Int) (k : Nat) : ∀ b ∈ mkBs L k, b.length = 256 := fun b hb => by
  unfold mkBs at hb
  obtain ⟨y, -, rfl⟩ := List.mem_map.1 hb
  exact filled_len _
section
attribute [local go_sem ↓] Go.wp_at_zero Go.wp_at_succ
set_option maxRecDepth 100000 in
set_option maxHeartbeats 8000000 in
theorem made13_any (v : Value) (L : List Int) (w : World) (hr : EI.Reads w v L) (hin : ∀ x ∈ L, inI x) (hl : L.length ≤ 9223372036854775807) :
    Calls Try.prog 60 #[v] w fun e w' => Below w.heap.size w w' ∧ ∃ A2 c2 A c, e = .returned (.tuple #[.agg #[.int .i64 1, .int .i64 2, .int .i64 3, .int .i64 4, .int .i64 5, .int .i64 6, .int .i64 0, .int .i64 0, .slice A2 (mkEs L 24).length c2], .slice A (mkBs L 24).length c]) ∧ EE.Own w' w.heap.size (.slice A2 (mkEs L 24).length c2) (mkEs L 24) ∧ ES.Own w' w.heap.size (.slice A (mkBs L 24).length c) (mkBs L 24) := by
  have hr' := hr
  obtain ⟨A0, c0, rfl, hc0, -⟩ := hr'
  have HR := Lib.hid hr
  have HIN : Hid (∀ k, k < L.length → inI (nthI L k)) := fun k hk => by
    have : nthI L k = L[k] := by simp only [nthI, List.getD_eq_getElem?_getD, List.getElem?_eq_getElem hk, Option.getD_some]
    rw [this]; exact hin _ (List.getElem_mem hk)
  have HF0 := Lib.hid (Fr.two w #[.int .i64 0, .int .i64 0, .int .i64 0, .int .i64 0, .int .i64 0, .int .i64 0, .int .i64 0, .int .i64 0, .slice none 0 0] #[.int .i64 1, .int .i64 2, .int .i64 3, .int .i64 4, .int .i64 5, .int .i64 6, .int .i64 0, .int .i64 0, .slice none 0 0] 24 24)
  clear hr hin
  go_enter Try.func60, Try.ntmps60
  go_wp2_with fail
  generalize (w.alloc (.cells #[.int .i64 0, .int .i64 0, .int .i64 0, .int .i64 0, .int .i64 0, .int .i64 0, .int .i64 0, .int .i64 0, .slice none 0 0] 24)).alloc (.cells #[.int .i64 1, .int .i64 2, .int .i64 3, .int .i64 4, .int .i64 5, .int .i64 6, .int .i64 0, .int .i64 0, .slice none 0 0] 24) = W1 at *
  go_loopw [5, 6] (fun bl i wr => ∃ (k : Nat) (A : Option Addr) (c : Nat) (A2 : Option Addr) (c2 : Nat), k ≤ 24 ∧ k ≤ L.length ∧ i = .int .i64 k ∧ bl = .slice A (mkBs L k).length c ∧ Fr w wr [(#[.int .i64 0, .int .i64 0, .int .i64 0, .int .i64 0, .int .i64 0, .int .i64 0, .int .i64 0, .int .i64 0, .slice none 0 0], 24), (#[.int .i64 1, .int .i64 2, .int .i64 3, .int .i64 4, .int .i64 5, .int .i64 6, .int .i64 0, .int .i64 0, .slice A2 (mkEs L k).length c2], 24)] ∧ EE.Own wr (w.heap.size + 2) (.slice A2 (mkEs L k).length c2) (mkEs L k) ∧ ES.Own wr (w.heap.size + 2) (.slice A (mkBs L k).length c) (mkBs L k) ∧ ∀ a b, A = some a → A2 = some b → a.block ≠ b.block) (fun _ i _ => 24 - (intOf i).toNat)
  case atStart => exact ⟨0, none, 0, none, 0, by omega, by omega, rfl, rfl, HF0.out, El.Own.nil _ _, El.Own.nil _ _, (fun a b e => by cases e)⟩
  clear HF0
  case round =>
    obtain ⟨k, A, c, A2, c2, hk, hkl, rfl, rfl, hf, hE, hB, hne⟩ := hrel
    have HF := Lib.hid hf
    have HE := Lib.hid hE
    have HBs := Lib.hid hB
    have HNE := Lib.hid hne
    clear hf hE hB hne
    have HB := Lib.hid HF.out.bel
    have HEL : Hid ((mkEs L k).length ≤ 24) := by unfold Hid; rw [mkEs_len]; omega
    have HBL : Hid ((mkBs L k).length ≤ 24) := by unfold Hid; rw [mkBs_len]; omega
    by_cases hlt : k < L.length
    · by_cases h24 : k < 24
      · obtain ⟨b, o, c', hv, hbw, e0⟩ := EI_at (HR.out.below HB.out) k hlt
        simp only [Value.slice.injEq] at hv
        obtain ⟨rfl, -, rfl⟩ := hv
        have hvb := placeOf_bd (nthI L k) 1048576 (by decide)
        have hx := HIN.out k hlt
        have HEN := Lib.hid (mkEs_succ L k hlt)
        have HBN := Lib.hid (mkBs_succ L k hlt)
        have e8 : wr.cell? ⟨w.heap.size + 1, 8, none⟩ = some (.slice A2 (mkEs L k).length c2) := HF.out.cells (i := 1) rfl rfl 8
        have HSZ : Hid (w.heap.size + 2 ≤ wr.heap.size) := HF.out.2.1
        go_wp2_with fail
        refine (place_any _ 1048576 _ hx.1 hx.2 (by decide) (by decide)).mono ?_
        rintro e w2 ⟨rfl, rfl⟩
        have hmv : placeOf (nthI L k) 1048576 = mkV (nthI L k) := rfl
        have hEE : (⟨1, 1 + mkV (nthI L k) % 255, mkV (nthI L k) / 255 % 588⟩ : Ent) = mkE (nthI L k) := rfl
        have HEE := Lib.hid hEE
        have hBB : filled (mkV (nthI L k) % 1000) = mkB (nthI L k) := rfl
        have HBB := Lib.hid hBB
        rw [hmv] at hvb ⊢
        clear hmv e0 hEE hBB
        generalize mkV (nthI L k) = x at *
        go_upto_region 8 with (at_builtin; refine EE.app (w0 := wr) rfl _ _ rfl (w.heap.size + 2) (.slice A2 (mkEs L k).length c2) (mkEs L k) ⟨1, 1 + x % 255, x / 255 % 588⟩ rfl HE.out rfl _ rfl ?cb ?cm HSZ.out (Below.refl _ _ |>.mono HSZ.out) ?_; (case cb => have := HEL.out; simp only [EE]; omega); (case cm => have := HEL.out; omega); intro v' w1 ho _ hg hat; obtain ⟨A', c', rfl, -⟩ := ho.reads; rw [HEE.out, ← HEN.out] at ho; have HE1 := Lib.hid ho; have HG1 := Lib.hid hg; have HA1 := Lib.hid hat; have HF1 := Lib.hid (HF.out.grown hg (fun r e => (HE.out.lt r e).1)); have e8 : w1.cell? ⟨w.heap.size + 1, 8, none⟩ = some (.slice A2 (mkEs L k).length c2) := HF1.out.cells (i := 1) rfl rfl 8; have f8 : w1.frozen? ⟨w.heap.size + 1, 8, none⟩ = false := HF1.out.frees (i := 1) rfl rfl 8; clear ho hg hat)
        have HLE : Hid ((mkEs L k).length + 1 = (mkEs L (k + 1)).length) := by unfold Hid; rw [HEN.out, List.length_append]; rfl
        rw [HLE.out]
        have HF3 : Hid (Fr w (w1.setCell ⟨w.heap.size + 1, 8, none⟩ (.slice A' (mkEs L (k + 1)).length c')) [(#[.int .i64 0, .int .i64 0, .int .i64 0, .int .i64 0, .int .i64 0, .int .i64 0, .int .i64 0, .int .i64 0, .slice none 0 0], 24), (#[.int .i64 1, .int .i64 2, .int .i64 3, .int .i64 4, .int .i64 5, .int .i64 6, .int .i64 0, .int .i64 0, .slice A' (mkEs L (k + 1)).length c'], 24)]) := (HF1.out.set (i := 1) (b := w.heap.size + 1) rfl rfl 8 (.slice A' (mkEs L (k + 1)).length c')).at' (by simp only [List.set_cons_zero, List.set_cons_succ, List.setIfInBounds_toArray])
        have HE3 : Hid (EE.Own (w1.setCell ⟨w.heap.size + 1, 8, none⟩ (.slice A' (mkEs L (k + 1)).length c')) (w.heap.size + 2) (.slice A' (mkEs L (k + 1)).length c') (mkEs L (k + 1))) := HE1.out.set (p := ⟨w.heap.size + 1, 8, none⟩) (Nat.lt_succ_self _) _
        have HB3 : Hid (ES.Own (w1.setCell ⟨w.heap.size + 1, 8, none⟩ (.slice A' (mkEs L (k + 1)).length c')) (w.heap.size + 2) (.slice A (mkBs L k).length c) (mkBs L k)) := (HBs.out.kept HG1.out (ne_row HNE.out)).set (p := ⟨w.heap.size + 1, 8, none⟩) (Nat.lt_succ_self _) _
        have HNE3 : Hid (∀ a b, A' = some a → A = some b → a.block ≠ b.block) := fun a b h1 h2 => Ne.symm (ne_after HNE.out HA1.out (fun a e => (HBs.out.addr_lt a e).2) b a h2 h1)
        clear HF HE HBs HNE HE1 HG1 HA1 HF1 e8 f8 HB HSZ HEL
        generalize w1.setCell ⟨w.heap.size + 1, 8, none⟩ (.slice A' (mkEs L (k + 1)).length c') = W3 at *
        go_wp2_with fail
        refine (filledc_any _ _ (by omega) (by omega)).mono ?_
        rintro e w4 ⟨rfl, hb⟩
        have HF4 := Lib.hid (HF3.out.below hb)
        have HE4 := Lib.hid (HE3.out.below hb)
        have HB4 := Lib.hid (HB3.out.below hb)
        have HSZ : Hid (w.heap.size + 2 ≤ w4.heap.size) := HF4.out.2.1
        clear hb HF3 HE3 HB3
        go_wp2_with (at_builtin; refine ES.app (w0 := w4) rfl _ _ rfl (w.heap.size + 2) (.slice A (mkBs L k).length c) (mkBs L k) (filled (x % 1000)) rfl HB4.out rfl _ rfl ?cb ?cm HSZ.out (Below.refl _ _ |>.mono HSZ.out) ?_; (case cb => have := HBL.out; simp only [ES]; omega); (case cm => have := HBL.out; omega); intro v' w5 ho _ hg hat; obtain ⟨B', b', rfl, -⟩ := ho.reads; have HNE5 := Lib.hid (ne_after HNE3.out hat (fun a e => (HE4.out.addr_lt a e).2)); rw [HBB.out, ← HBN.out] at ho; have HB5 := Lib.hid ho; have HE5 := Lib.hid (HE4.out.kept hg (ne_row HNE3.out)); have HF5 := Lib.hid (HF4.out.grown hg (fun r e => (HB4.out.lt r e).1)); clear ho hg hat)
        have HLB : Hid ((mkBs L k).length + 1 = (mkBs L (k + 1)).length) := by unfold Hid; rw [HBN.out, List.length_append]; rfl
        go_roundw
        case rel => exact ⟨k + 1, B', b', A', c', by omega, by omega, by go_num, by rw [HLB.out], HF5.out, HE5.out, HB5.out, fun a b h1 h2 => Ne.symm (HNE5.out b a h2 h1)⟩
        case measure => simp only [intOf]; omega
      · obtain rfl : k = 24 := by omega
        have e8 : ∀ j : Nat, wr.cell? ⟨w.heap.size + 1, j, none⟩ = (#[.int .i64 1, .int .i64 2, .int .i64 3, .int .i64 4, .int .i64 5, .int .i64 6, .int .i64 0, .int .i64 0, .slice A2 (mkEs L 24).length c2] : Array Value)[j]? := HF.out.cells (i := 1) rfl rfl
        have e0 : ∀ j : Nat, wr.cell? ⟨w.heap.size, j, none⟩ = (#[.int .i64 0, .int .i64 0, .int .i64 0, .int .i64 0, .int .i64 0, .int .i64 0, .int .i64 0, .int .i64 0, .slice none 0 0] : Array Value)[j]? := HF.out.cells (i := 0) rfl rfl
        have f0 := HF.out.frees (i := 0) (b := w.heap.size) rfl rfl
        go_wp2_with fail
        have HZ : Hid (Fr w (((((((((wr.setCell ⟨w.heap.size, 0, none⟩ (.int .i64 1)).setCell ⟨w.heap.size, 1, none⟩ (.int .i64 2)).setCell ⟨w.heap.size, 2, none⟩ (.int .i64 3)).setCell ⟨w.heap.size, 3, none⟩ (.int .i64 4)).setCell ⟨w.heap.size, 4, none⟩ (.int .i64 5)).setCell ⟨w.heap.size, 5, none⟩ (.int .i64 6)).setCell ⟨w.heap.size, 6, none⟩ (.int .i64 0)).setCell ⟨w.heap.size, 7, none⟩ (.int .i64 0)).setCell ⟨w.heap.size, 8, none⟩ (.slice A2 (mkEs L 24).length c2)) [(#[.int .i64 1, .int .i64 2, .int .i64 3, .int .i64 4, .int .i64 5, .int .i64 6, .int .i64 0, .int .i64 0, .slice A2 (mkEs L 24).length c2], 24), (#[.int .i64 1, .int .i64 2, .int .i64 3, .int .i64 4, .int .i64 5, .int .i64 6, .int .i64 0, .int .i64 0, .slice A2 (mkEs L 24).length c2], 24)] ∧ EE.Own (((((((((wr.setCell ⟨w.heap.size, 0, none⟩ (.int .i64 1)).setCell ⟨w.heap.size, 1, none⟩ (.int .i64 2)).setCell ⟨w.heap.size, 2, none⟩ (.int .i64 3)).setCell ⟨w.heap.size, 3, none⟩ (.int .i64 4)).setCell ⟨w.heap.size, 4, none⟩ (.int .i64 5)).setCell ⟨w.heap.size, 5, none⟩ (.int .i64 6)).setCell ⟨w.heap.size, 6, none⟩ (.int .i64 0)).setCell ⟨w.heap.size, 7, none⟩ (.int .i64 0)).setCell ⟨w.heap.size, 8, none⟩ (.slice A2 (mkEs L 24).length c2)) (w.heap.size + 2) (.slice A2 (mkEs L 24).length c2) (mkEs L 24) ∧ ES.Own (((((((((wr.setCell ⟨w.heap.size, 0, none⟩ (.int .i64 1)).setCell ⟨w.heap.size, 1, none⟩ (.int .i64 2)).setCell ⟨w.heap.size, 2, none⟩ (.int .i64 3)).setCell ⟨w.heap.size, 3, none⟩ (.int .i64 4)).setCell ⟨w.heap.size, 4, none⟩ (.int .i64 5)).setCell ⟨w.heap.size, 5, none⟩ (.int .i64 6)).setCell ⟨w.heap.size, 6, none⟩ (.int .i64 0)).setCell ⟨w.heap.size, 7, none⟩ (.int .i64 0)).setCell ⟨w.heap.size, 8, none⟩ (.slice A2 (mkEs L 24).length c2)) (w.heap.size + 2) (.slice A (mkBs L 24).length c) (mkBs L 24)) := ⟨((((((((((HF.out.set (i := 0) (b := w.heap.size) rfl rfl 0 (.int .i64 1)).set (i := 0) (b := w.heap.size) rfl rfl 1 (.int .i64 2)).set (i := 0) (b := w.heap.size) rfl rfl 2 (.int .i64 3)).set (i := 0) (b := w.heap.size) rfl rfl 3 (.int .i64 4)).set (i := 0) (b := w.heap.size) rfl rfl 4 (.int .i64 5)).set (i := 0) (b := w.heap.size) rfl rfl 5 (.int .i64 6)).set (i := 0) (b := w.heap.size) rfl rfl 6 (.int .i64 0)).set (i := 0) (b := w.heap.size) rfl rfl 7 (.int .i64 0)).set (i := 0) (b := w.heap.size) rfl rfl 8 (.slice A2 (mkEs L 24).length c2)).at' (bl' := [(#[.int .i64 1, .int .i64 2, .int .i64 3, .int .i64 4, .int .i64 5, .int .i64 6, .int .i64 0, .int .i64 0, .slice A2 (mkEs L 24).length c2], 24), (#[.int .i64 1, .int .i64 2, .int .i64 3, .int .i64 4, .int .i64 5, .int .i64 6, .int .i64 0, .int .i64 0, .slice A2 (mkEs L 24).length c2], 24)]) (by simp only [List.setIfInBounds_toArray, List.set_cons_zero, List.set_cons_succ])), (((((((((HE.out.set (p := ⟨w.heap.size, 0, none⟩) (Nat.lt_succ_of_lt (Nat.lt_succ_self _)) (.int .i64 1)).set (p := ⟨w.heap.size, 1, none⟩) (Nat.lt_succ_of_lt (Nat.lt_succ_self _)) (.int .i64 2)).set (p := ⟨w.heap.size, 2, none⟩) (Nat.lt_succ_of_lt (Nat.lt_succ_self _)) (.int .i64 3)).set (p := ⟨w.heap.size, 3, none⟩) (Nat.lt_succ_of_lt (Nat.lt_succ_self _)) (.int .i64 4)).set (p := ⟨w.heap.size, 4, none⟩) (Nat.lt_succ_of_lt (Nat.lt_succ_self _)) (.int .i64 5)).set (p := ⟨w.heap.size, 5, none⟩) (Nat.lt_succ_of_lt (Nat.lt_succ_self _)) (.int .i64 6)).set (p := ⟨w.heap.size, 6, none⟩) (Nat.lt_succ_of_lt (Nat.lt_succ_self _)) (.int .i64 0)).set (p := ⟨w.heap.size, 7, none⟩) (Nat.lt_succ_of_lt (Nat.lt_succ_self _)) (.int .i64 0)).set (p := ⟨w.heap.size, 8, none⟩) (Nat.lt_succ_of_lt (Nat.lt_succ_self _)) (.slice A2 (mkEs L 24).length c2)), (((((((((HBs.out.set (p := ⟨w.heap.size, 0, none⟩) (Nat.lt_succ_of_lt (Nat.lt_succ_self _)) (.int .i64 1)).set (p := ⟨w.heap.size, 1, none⟩) (Nat.lt_succ_of_lt (Nat.lt_succ_self _)) (.int .i64 2)).set (p := ⟨w.heap.size, 2, none⟩) (Nat.lt_succ_of_lt (Nat.lt_succ_self _)) (.int .i64 3)).set (p := ⟨w.heap.size, 3, none⟩) (Nat.lt_succ_of_lt (Nat.lt_succ_self _)) (.int .i64 4)).set (p := ⟨w.heap.size, 4, none⟩) (Nat.lt_succ_of_lt (Nat.lt_succ_self _)) (.int .i64 5)).set (p := ⟨w.heap.size, 5, none⟩) (Nat.lt_succ_of_lt (Nat.lt_succ_self _)) (.int .i64 6)).set (p := ⟨w.heap.size, 6, none⟩) (Nat.lt_succ_of_lt (Nat.lt_succ_self _)) (.int .i64 0)).set (p := ⟨w.heap.size, 7, none⟩) (Nat.lt_succ_of_lt (Nat.lt_succ_self _)) (.int .i64 0)).set (p := ⟨w.heap.size, 8, none⟩) (Nat.lt_succ_of_lt (Nat.lt_succ_self _)) (.slice A2 (mkEs L 24).length c2))⟩
        clear e0 e8 f0
        refine (fun (hk : ∀ W, (Fr w W [(#[.int .i64 1, .int .i64 2, .int .i64 3, .int .i64 4, .int .i64 5, .int .i64 6, .int .i64 0, .int .i64 0, .slice A2 (mkEs L 24).length c2], 24), (#[.int .i64 1, .int .i64 2, .int .i64 3, .int .i64 4, .int .i64 5, .int .i64 6, .int .i64 0, .int .i64 0, .slice A2 (mkEs L 24).length c2], 24)] ∧ EE.Own W (w.heap.size + 2) (.slice A2 (mkEs L 24).length c2) (mkEs L 24) ∧ ES.Own W (w.heap.size + 2) (.slice A (mkBs L 24).length c) (mkBs L 24)) → bodyPost Try.prog Try.f60 _ Exit.ret _ W) => hk _ HZ.out) ?_
        intro W hst
        have HW := Lib.hid hst
        have dd : ∀ j : Nat, W.cell? ⟨w.heap.size, j, none⟩ = (#[.int .i64 1, .int .i64 2, .int .i64 3, .int .i64 4, .int .i64 5, .int .i64 6, .int .i64 0, .int .i64 0, .slice A2 (mkEs L 24).length c2] : Array Value)[j]? := hst.1.cells (i := 0) rfl rfl
        clear hst
        refine bodyPost_ret (v := .tuple #[.agg #[.int .i64 1, .int .i64 2, .int .i64 3, .int .i64 4, .int .i64 5, .int .i64 6, .int .i64 0, .int .i64 0, .slice A2 (mkEs L 24).length c2], .slice A (mkBs L 24).length c]) (by simp [results, Try.results60, go_sem, dd]) rfl ⟨HW.out.1.bel, ?_⟩
        exact ⟨A2, c2, A, c, rfl, HW.out.2.1.mono (by omega), HW.out.2.2.mono (by omega)⟩
    · have hke : k = L.length := by omega
      have HDN := Lib.hid (mkEs_done L k hk (.inr hke))
      clear hke
      have e8 : ∀ j : Nat, wr.cell? ⟨w.heap.size + 1, j, none⟩ = (#[.int .i64 1, .int .i64 2, .int .i64 3, .int .i64 4, .int .i64 5, .int .i64 6, .int .i64 0, .int .i64 0, .slice A2 (mkEs L k).length c2] : Array Value)[j]? := HF.out.cells (i := 1) rfl rfl
      have e0 : ∀ j : Nat, wr.cell? ⟨w.heap.size, j, none⟩ = (#[.int .i64 0, .int .i64 0, .int .i64 0, .int .i64 0, .int .i64 0, .int .i64 0, .int .i64 0, .int .i64 0, .slice none 0 0] : Array Value)[j]? := HF.out.cells (i := 0) rfl rfl
      have f0 := HF.out.frees (i := 0) (b := w.heap.size) rfl rfl
      go_wp2_with fail
      have HZ : Hid (Fr w (((((((((wr.setCell ⟨w.heap.size, 0, none⟩ (.int .i64 1)).setCell ⟨w.heap.size, 1, none⟩ (.int .i64 2)).setCell ⟨w.heap.size, 2, none⟩ (.int .i64 3)).setCell ⟨w.heap.size, 3, none⟩ (.int .i64 4)).setCell ⟨w.heap.size, 4, none⟩ (.int .i64 5)).setCell ⟨w.heap.size, 5, none⟩ (.int .i64 6)).setCell ⟨w.heap.size, 6, none⟩ (.int .i64 0)).setCell ⟨w.heap.size, 7, none⟩ (.int .i64 0)).setCell ⟨w.heap.size, 8, none⟩ (.slice A2 (mkEs L k).length c2)) [(#[.int .i64 1, .int .i64 2, .int .i64 3, .int .i64 4, .int .i64 5, .int .i64 6, .int .i64 0, .int .i64 0, .slice A2 (mkEs L k).length c2], 24), (#[.int .i64 1, .int .i64 2, .int .i64 3, .int .i64 4, .int .i64 5, .int .i64 6, .int .i64 0, .int .i64 0, .slice A2 (mkEs L k).length c2], 24)] ∧ EE.Own (((((((((wr.setCell ⟨w.heap.size, 0, none⟩ (.int .i64 1)).setCell ⟨w.heap.size, 1, none⟩ (.int .i64 2)).setCell ⟨w.heap.size, 2, none⟩ (.int .i64 3)).setCell ⟨w.heap.size, 3, none⟩ (.int .i64 4)).setCell ⟨w.heap.size, 4, none⟩ (.int .i64 5)).setCell ⟨w.heap.size, 5, none⟩ (.int .i64 6)).setCell ⟨w.heap.size, 6, none⟩ (.int .i64 0)).setCell ⟨w.heap.size, 7, none⟩ (.int .i64 0)).setCell ⟨w.heap.size, 8, none⟩ (.slice A2 (mkEs L k).length c2)) (w.heap.size + 2) (.slice A2 (mkEs L k).length c2) (mkEs L k) ∧ ES.Own (((((((((wr.setCell ⟨w.heap.size, 0, none⟩ (.int .i64 1)).setCell ⟨w.heap.size, 1, none⟩ (.int .i64 2)).setCell ⟨w.heap.size, 2, none⟩ (.int .i64 3)).setCell ⟨w.heap.size, 3, none⟩ (.int .i64 4)).setCell ⟨w.heap.size, 4, none⟩ (.int .i64 5)).setCell ⟨w.heap.size, 5, none⟩ (.int .i64 6)).setCell ⟨w.heap.size, 6, none⟩ (.int .i64 0)).setCell ⟨w.heap.size, 7, none⟩ (.int .i64 0)).setCell ⟨w.heap.size, 8, none⟩ (.slice A2 (mkEs L k).length c2)) (w.heap.size + 2) (.slice A (mkBs L k).length c) (mkBs L k)) := ⟨((((((((((HF.out.set (i := 0) (b := w.heap.size) rfl rfl 0 (.int .i64 1)).set (i := 0) (b := w.heap.size) rfl rfl 1 (.int .i64 2)).set (i := 0) (b := w.heap.size) rfl rfl 2 (.int .i64 3)).set (i := 0) (b := w.heap.size) rfl rfl 3 (.int .i64 4)).set (i := 0) (b := w.heap.size) rfl rfl 4 (.int .i64 5)).set (i := 0) (b := w.heap.size) rfl rfl 5 (.int .i64 6)).set (i := 0) (b := w.heap.size) rfl rfl 6 (.int .i64 0)).set (i := 0) (b := w.heap.size) rfl rfl 7 (.int .i64 0)).set (i := 0) (b := w.heap.size) rfl rfl 8 (.slice A2 (mkEs L k).length c2)).at' (bl' := [(#[.int .i64 1, .int .i64 2, .int .i64 3, .int .i64 4, .int .i64 5, .int .i64 6, .int .i64 0, .int .i64 0, .slice A2 (mkEs L k).length c2], 24), (#[.int .i64 1, .int .i64 2, .int .i64 3, .int .i64 4, .int .i64 5, .int .i64 6, .int .i64 0, .int .i64 0, .slice A2 (mkEs L k).length c2], 24)]) (by simp only [List.setIfInBounds_toArray, List.set_cons_zero, List.set_cons_succ])), (((((((((HE.out.set (p := ⟨w.heap.size, 0, none⟩) (Nat.lt_succ_of_lt (Nat.lt_succ_self _)) (.int .i64 1)).set (p := ⟨w.heap.size, 1, none⟩) (Nat.lt_succ_of_lt (Nat.lt_succ_self _)) (.int .i64 2)).set (p := ⟨w.heap.size, 2, none⟩) (Nat.lt_succ_of_lt (Nat.lt_succ_self _)) (.int .i64 3)).set (p := ⟨w.heap.size, 3, none⟩) (Nat.lt_succ_of_lt (Nat.lt_succ_self _)) (.int .i64 4)).set (p := ⟨w.heap.size, 4, none⟩) (Nat.lt_succ_of_lt (Nat.lt_succ_self _)) (.int .i64 5)).set (p := ⟨w.heap.size, 5, none⟩) (Nat.lt_succ_of_lt (Nat.lt_succ_self _)) (.int .i64 6)).set (p := ⟨w.heap.size, 6, none⟩) (Nat.lt_succ_of_lt (Nat.lt_succ_self _)) (.int .i64 0)).set (p := ⟨w.heap.size, 7, none⟩) (Nat.lt_succ_of_lt (Nat.lt_succ_self _)) (.int .i64 0)).set (p := ⟨w.heap.size, 8, none⟩) (Nat.lt_succ_of_lt (Nat.lt_succ_self _)) (.slice A2 (mkEs L k).length c2)), (((((((((HBs.out.set (p := ⟨w.heap.size, 0, none⟩) (Nat.lt_succ_of_lt (Nat.lt_succ_self _)) (.int .i64 1)).set (p := ⟨w.heap.size, 1, none⟩) (Nat.lt_succ_of_lt (Nat.lt_succ_self _)) (.int .i64 2)).set (p := ⟨w.heap.size, 2, none⟩) (Nat.lt_succ_of_lt (Nat.lt_succ_self _)) (.int .i64 3)).set (p := ⟨w.heap.size, 3, none⟩) (Nat.lt_succ_of_lt (Nat.lt_succ_self _)) (.int .i64 4)).set (p := ⟨w.heap.size, 4, none⟩) (Nat.lt_succ_of_lt (Nat.lt_succ_self _)) (.int .i64 5)).set (p := ⟨w.heap.size, 5, none⟩) (Nat.lt_succ_of_lt (Nat.lt_succ_self _)) (.int .i64 6)).set (p := ⟨w.heap.size, 6, none⟩) (Nat.lt_succ_of_lt (Nat.lt_succ_self _)) (.int .i64 0)).set (p := ⟨w.heap.size, 7, none⟩) (Nat.lt_succ_of_lt (Nat.lt_succ_self _)) (.int .i64 0)).set (p := ⟨w.heap.size, 8, none⟩) (Nat.lt_succ_of_lt (Nat.lt_succ_self _)) (.slice A2 (mkEs L k).length c2))⟩
      clear e0 e8 f0
      refine (fun (hk : ∀ W, (Fr w W [(#[.int .i64 1, .int .i64 2, .int .i64 3, .int .i64 4, .int .i64 5, .int .i64 6, .int .i64 0, .int .i64 0, .slice A2 (mkEs L k).length c2], 24), (#[.int .i64 1, .int .i64 2, .int .i64 3, .int .i64 4, .int .i64 5, .int .i64 6, .int .i64 0, .int .i64 0, .slice A2 (mkEs L k).length c2], 24)] ∧ EE.Own W (w.heap.size + 2) (.slice A2 (mkEs L k).length c2) (mkEs L k) ∧ ES.Own W (w.heap.size + 2) (.slice A (mkBs L k).length c) (mkBs L k)) → bodyPost Try.prog Try.f60 _ Exit.ret _ W) => hk _ HZ.out) ?_
      intro W hst
      have HW := Lib.hid hst
      have dd : ∀ j : Nat, W.cell? ⟨w.heap.size, j, none⟩ = (#[.int .i64 1, .int .i64 2, .int .i64 3, .int .i64 4, .int .i64 5, .int .i64 6, .int .i64 0, .int .i64 0, .slice A2 (mkEs L k).length c2] : Array Value)[j]? := hst.1.cells (i := 0) rfl rfl
      clear hst
      refine bodyPost_ret (v := .tuple #[.agg #[.int .i64 1, .int .i64 2, .int .i64 3, .int .i64 4, .int .i64 5, .int .i64 6, .int .i64 0, .int .i64 0, .slice A2 (mkEs L k).length c2], .slice A (mkBs L k).length c]) (by simp [results, Try.results60, go_sem, dd]) rfl ⟨HW.out.1.bel, ?_⟩
      have HW2 := HW.out
      rw [HDN.out.1, HDN.out.2] at HW2
      exact ⟨A2, c2, A, c, by rw [HDN.out.1, HDN.out.2], HW2.2.1.mono (by omega), HW2.2.2.mono (by omega)⟩
end
end Go.Proofs.Ytjoplgdcpihmaaa
