/- Chunks: strings in memory, a block by a number, join, Make. -/
import Derived.Test.YtjoplgdcpihmaaaChkP
import Derived.Test.YtjoplgdcpihmaaaShelf
import Derived.Test.YtjoplgdcpihmaaaFr
import Derived.Test.YtjoplgdcpihmaaaHeadL
import Derived.Test.YtjoplgdcpihmaaaHeadG
namespace Go.Proofs.Ytjoplgdcpihmaaa
open Go.RowKit
theorem info9 : (Try.prog.info? 9).map (fun i => (i.zero, i.size, i.bytes)) = some (some (.string ⟨#[]⟩), 1, 16) := by kernel_rfl
/-- Strings. -/
def ES : El (List UInt8) := { t := 67, e := 9, size := 1, bytes := 16, z := .string ⟨#[]⟩, enc := fun c => [.string (bs c)], len := fun _ => rfl, one := fun x u hu => by simp at hu; subst hu; rfl, pos := by decide, ht := Try.underlying67, hinfo := info9, hz := rfl }
theorem ES_at {w : World} {v : Value} {l : List (List UInt8)} (h : ES.Reads w v l) (i : Nat) (x : List UInt8) (hi : l[i]? = some x) : ∃ b o c, v = .slice (some ⟨b, o, none⟩) l.length c ∧ b < w.heap.size ∧ w.cell? ⟨b, o + i, none⟩ = some (.string (bs x)) := by
  obtain ⟨b, o, c, hv, hb, hc⟩ := h.at i x hi
  have := hc 0 _ rfl
  simp only [ES, Nat.mul_one, Nat.add_zero] at this
  exact ⟨b, o, c, hv, hb, this⟩
/-! ### a block by a number -/
def fillAt (v : Int) (i : Nat) : UInt8 := lowB (v + (i : Int) * (1 + v % 5))
def fillK (v : Int) (k : Nat) : List UInt8 := (List.range 256).map fun i => if i < k then fillAt v i else 0
def filled (v : Int) : List UInt8 := fillK v 256
theorem fillK_len (v : Int) (k : Nat) : (fillK v k).length = 256 := by simp [fillK]
theorem filled_len (v : Int) : (filled v).length = 256 := fillK_len v 256
theorem fillK_zero (v : Int) : fillK v 0 = List.replicate 256 0 := by
  refine List.eq_replicate_iff.2 ⟨fillK_len v 0, fun b hb => ?_⟩
  unfold fillK at hb
  obtain ⟨i, -, rfl⟩ := List.mem_map.1 hb
  rw [if_neg (Nat.not_lt_zero _)]
theorem fillK_succ (v : Int) (k : Nat) (_h : k < 256) : fillK v (k + 1) = (fillK v k).set k (fillAt v k) := by
  apply List.ext_getElem
  · rw [List.length_set, fillK_len, fillK_len]
  · intro i h1 h2
    simp only [fillK, List.getElem_map, List.getElem_range, List.getElem_set]
    by_cases hik : k = i
    · subst hik; rw [if_pos (by omega), if_pos rfl]
    · rw [if_neg hik]
      by_cases h3 : i < k
      · rw [if_pos (by omega), if_pos h3]
      · rw [if_neg (by omega), if_neg h3]
section
attribute [local go_sem] bc_set bs_size
set_option maxRecDepth 100000 in
set_option maxHeartbeats 400000 in
theorem filledc_any (v : Int) (w : World) (h0 : 0 ≤ v) (h1 : v ≤ 100000) :
    Calls Try.prog 37 #[.int .i64 v] w fun e w' => e = .returned (.string (bs (filled v))) ∧ Below w.heap.size w w' := by
  have hm : ∀ W : World, (Instr.makeSlice 38 (.int .i64 256) (.int .i64 256)).run Try.prog W = .ok (.slice (some ⟨W.heap.size, 0, none⟩) 256 256) (W.alloc (.cells (bc (fillK v 0)) 5)) := fun W => by rw [fillK_zero]; exact mk38 256 (by omega) W
  go_enter Try.func37, Try.ntmps37
  go_wp2
  clear hm
  go_loopw [4] (fun i wr => ∃ k : Nat, k ≤ 256 ∧ i = .int .i64 k ∧ wr = w.alloc (.cells (bc (fillK v k)) 5)) (fun i _ => 256 - (intOf i).toNat)
  case atStart => exact ⟨0, by omega, rfl, rfl⟩
  case round =>
    obtain ⟨k, hk, rfl, rfl⟩ := hrel
    by_cases hlt : k < 256
    · have hq0 : 0 ≤ v % 5 := Int.emod_nonneg _ (by omega)
      have hq1 : v % 5 < 5 := Int.emod_lt_of_pos _ (by omega)
      have hm0 : 0 ≤ (k : Int) * (1 + v % 5) := Int.mul_nonneg (by omega) (by omega)
      have hm1 : (k : Int) * (1 + v % 5) ≤ 256 * 6 := Int.mul_le_mul (by omega) (by omega) (by omega) (by omega)
      have hv : (v + (k : Int) * (1 + v % 5)) % 256 = vB (fillAt v k) := (vB_low _).symm
      have hg := bc_get (fillK v k) k (by rw [fillK_len]; exact hlt)
      have HFS := Lib.hid (fillK_succ v k hlt)
      go_wp2
      go_roundw
      case rel => exact ⟨k + 1, by omega, by go_num, by rw [HFS.out]⟩
      case measure => simp only [intOf]; omega
    · obtain rfl : k = 256 := by omega
      have hcv := conv_new w (fillK v 256) 256 (fillK_len v 256).symm
      go_wp2
      go_ret
      exact ⟨rfl, (Below.refl _ _).alloc (Nat.le_refl _) _⟩
end
/-! ### join -/
theorem join_flat (B : List (List UInt8)) : Lib.join B [] = B.flatten := by
  unfold Lib.join
  cases B with
  | nil => rfl
  | cons x r =>
    have h : ∀ (x : List UInt8) (r : List (List UInt8)), ([] : List UInt8).intercalate (x :: r) = x ++ r.flatten := by
      intro x r
      induction r generalizing x with
      | nil => simp [List.intercalate]
      | cons y r ih => 
        have := ih y
        simp only [List.intercalate, List.intersperse, List.flatten_cons, List.nil_append] at this ⊢
        rw [this]
    rw [h]; rfl
section
set_option maxRecDepth 100000 in
set_option maxHeartbeats 1000000 in
theorem join_any (v : Value) (B : List (List UInt8)) (w : World) (hr : ES.Reads w v B) (hB : B.length ≤ 100000) (hf : B.flatten.length ≤ 140737488355328) :
    Calls Try.prog 111 #[v] w fun e w' => e = .returned (.string (bs B.flatten)) ∧ Below w.heap.size w w' := by
  have key : Calls Try.prog 139 #[v, .string ⟨#[]⟩] w fun e w' => e = .returned (.string (bs B.flatten)) ∧ Below w.heap.size w w' := by
    obtain ⟨A, c, rfl, hc, hcell⟩ := hr
    rcases Nat.eq_zero_or_pos B.length with h0 | h0
    · have hB0 : B = [] := List.eq_nil_of_length_eq_zero h0
      subst hB0
      refine (Sh_strings_Join_none A c ⟨#[]⟩ w).mono ?_
      rintro e w' ⟨rfl, rfl⟩
      exact ⟨rfl, Below.refl _ _⟩
    · obtain ⟨b, o, rfl, hb, hcc⟩ := hcell h0
      have h := Sh_strings_Join b o c (B.map bs) ⟨#[]⟩ w (fun j x hj => by
        rw [List.getElem?_map] at hj
        obtain ⟨y, hy, rfl⟩ := Option.map_eq_some_iff.1 hj
        have hjl := (List.getElem?_eq_some_iff.1 hy).1
        have := ES.cells_get B j 0 y hy (by decide)
        rw [show ES.size = 1 from rfl, Nat.mul_one, Nat.add_zero] at this
        exact hcc j _ (by rw [this]; rfl)) hb (by rw [List.length_map]; omega) (by rw [List.length_map]; exact hc) (by
          rw [List.map_map, show ((fun x : ByteArray => x.data.toList) ∘ bs) = id from rfl, List.map_id]
          show (Lib.join B []).length ≤ _
          rw [join_flat]; exact hf)
      rw [List.length_map] at h
      refine h.mono ?_
      rintro e w' ⟨rfl, hb'⟩
      refine ⟨?_, hb'⟩
      rw [List.map_map, show ((fun x : ByteArray => x.data.toList) ∘ bs) = id from rfl, List.map_id]
      show Ending.returned (.string ⟨(Lib.join B []).toArray⟩) = _
      rw [join_flat]; rfl
  have HK := Lib.hid key
  clear key
  go_enter Try.func111, Try.ntmps111
  go_wp2_with fail
  refine HK.out.mono ?_
  rintro e w1 ⟨rfl, hb⟩
  have HB := Lib.hid hb
  clear hb
  go_wp2_with fail
  go_ret
  exact ⟨rfl, HB.out⟩
end
section
attribute [local go_sem] bs_size
set_option maxRecDepth 100000 in
set_option maxHeartbeats 4000000 in
theorem make_any (h : Hd) (vE : Value) (l : List Ent) (v : Value) (B : List (List UInt8)) (w : World) (hE : EE.Reads w vE l) (hr : ES.Reads w v B) (hl : l.length * 24 ≤ 140737488351232) (hB : B.length ≤ 100000) :
    Calls Try.prog 55 #[.agg #[.int .i64 h.house, .int .i64 h.gen, .int .i64 h.life, .int .i64 h.seq, .int .i64 h.next, .int .i64 h.clock, .int .i64 h.sb, .int .i64 h.sn, vE], v] w fun e w' => e = .returned (.tuple #[.string (bs ((chunkPut h l B).getD [])), .bool (chunkPut h l B).isSome]) ∧ Below w.heap.size w w' := by
  have hr' := hr
  obtain ⟨A, c, rfl, hc, -⟩ := hr'
  have HB1 := Lib.hid (Fr.one w #[.int .i64 h.house, .int .i64 h.gen, .int .i64 h.life, .int .i64 h.seq, .int .i64 h.next, .int .i64 h.clock, .int .i64 h.sb, .int .i64 h.sn, vE] 24).bel
  have HF1 := Lib.hid (Fr.one w #[.int .i64 h.house, .int .i64 h.gen, .int .i64 h.life, .int .i64 h.seq, .int .i64 h.next, .int .i64 h.clock, .int .i64 h.sb, .int .i64 h.sn, vE] 24)
  have HR := Lib.hid (hr.below HB1.out)
  have HE := Lib.hid (hE.below HB1.out)
  clear hr hE
  go_enter Try.func55, Try.ntmps55
  go_wp2_with fail
  generalize w.alloc (.cells #[.int .i64 h.house, .int .i64 h.gen, .int .i64 h.life, .int .i64 h.seq, .int .i64 h.next, .int .i64 h.clock, .int .i64 h.sb, .int .i64 h.sn, vE] 24) = W1 at *
  go_loop [7, 13] (fun _ i => ∃ k : Nat, k ≤ B.length ∧ i = .int .i64 k ∧ ∀ (j : Nat) (b : List UInt8), j < k → B[j]? = some b → b.length = 256) (fun _ i => B.length - (intOf i).toNat)
  case atStart => exact ⟨0, by omega, rfl, fun j b hj => by omega⟩
  case round =>
    obtain ⟨k, hk, rfl, hok⟩ := hrel
    have HOK := Lib.hid hok
    clear hok
    by_cases hlt : k < B.length
    · obtain ⟨x, hx⟩ : ∃ x, B[k]? = some x := ⟨_, List.getElem?_eq_getElem hlt⟩
      obtain ⟨b, o, c', hv, hbw, e0⟩ := ES_at HR.out k x hx
      simp only [Value.slice.injEq] at hv
      obtain ⟨rfl, -, rfl⟩ := hv
      have HX := Lib.hid hx
      clear hx
      by_cases h256 : x.length = 256
      · have hne : ((x.length : Int) != 256) = false := by rw [h256]; decide
        have HO2 : Hid (∀ (j : Nat) (y : List UInt8), j < k + 1 → B[j]? = some y → y.length = 256) := fun j y hj hy => by
          rcases Nat.lt_or_ge j k with h | h
          · exact HOK.out j y h hy
          · obtain rfl : j = k := by omega
            have := HX.out
            rw [hy] at this; injection this with this; subst this; exact h256
        clear h256
        go_wp2
        go_round
        case rel => exact ⟨k + 1, by omega, by go_num, HO2.out⟩
        case measure => simp only [intOf]; omega
      · have hne : ((x.length : Int) != 256) = true := by rw [bne_iff_ne]; omega
        have HN : Hid (chunkPut h l B = none) := by
          unfold Hid chunkPut
          rw [if_neg]
          intro ha
          exact h256 (allB_iff.1 ha x (List.mem_of_getElem? HX.out))
        clear h256
        go_wp2
        go_ret2
        exact ⟨by rw [HN.out]; rfl, HB1.out⟩
    · have HALL : Hid (∀ b ∈ B, b.length = 256) := fun b hb => by
        obtain ⟨j, hj⟩ := List.getElem?_of_mem hb
        exact HOK.out j b (by have := (List.getElem?_eq_some_iff.1 hj).1; omega) hj
      have HFL := Lib.hid (flat_len HALL.out)
      have HCP : Hid (chunkPut h l B = (headPut h l B.flatten).map (· ++ B.flatten)) := by unfold Hid chunkPut; rw [if_pos (allB_iff.2 HALL.out)]
      have HLQ := Lib.hid hB
      go_wp2_with fail
      refine (join_any _ B _ HR.out hB (by rw [HFL.out]; omega)).mono ?_
      rintro e w2 ⟨rfl, hb⟩
      have HB2 := Lib.hid (HB1.out.trans (hb.mono HB1.out.size))
      have HE2 := Lib.hid (HE.out.below hb)
      have cc : ∀ j : Nat, w2.cell? ⟨w.heap.size, j, none⟩ = (#[.int .i64 h.house, .int .i64 h.gen, .int .i64 h.life, .int .i64 h.seq, .int .i64 h.next, .int .i64 h.clock, .int .i64 h.sb, .int .i64 h.sn, vE] : Array Value)[j]? := (HF1.out.below hb).cells (i := 0) rfl rfl
      clear hb HB1 HF1 HR HE
      go_wp2_with fail
      refine (headPut_any h vE l B.flatten _ HE2.out hl (by rw [HFL.out]; have := HLQ.out; omega)).mono ?_
      rintro e w3 ⟨rfl, hb⟩
      have HB3 := Lib.hid (HB2.out.trans (hb.mono HB2.out.size))
      clear hb cc HB2 HE2
      have HPL0 : Hid (∀ p, headPut h l B.flatten = some p → p.length ≤ 256) := fun p hp => by have := (get_put hp []).2; omega
      generalize headPut h l B.flatten = r at *
      cases r with
      | none =>
        have HN : Hid (chunkPut h l B = none) := HCP.out
        go_wp2_with fail
        go_ret2
        exact ⟨by rw [HN.out]; rfl, HB3.out⟩
      | some p =>
        have HN : Hid (chunkPut h l B = some (p ++ B.flatten)) := HCP.out
        simp only [Option.getD_some, Option.isSome_some]
        have HO : Hid (ES.Own (w3.alloc (.cells #[.string (bs p), .string (bs B.flatten)] 9)) w3.heap.size (.slice (some ⟨w3.heap.size, 0, none⟩) 2 2) [p, B.flatten]) := World.ownsRow_lit (base := w3.heap.size) (e := 9) (size := 1) w3 #[.string (bs p), .string (bs B.flatten)] 2 (Nat.le_refl _) (by decide) rfl
        have HPL : Hid (p.length ≤ 256) := HPL0.out p rfl
        have HB4 := Lib.hid (HB3.out.alloc HB3.out.size (.cells #[.string (bs p), .string (bs B.flatten)] 9))
        go_wp2_with fail
        refine (join_any _ [p, B.flatten] _ HO.out.reads (by simp) (by simp only [List.flatten_cons, List.flatten_nil, List.append_nil, List.length_append]; rw [HFL.out]; have := HPL.out; have := HLQ.out; omega)).mono ?_
        rintro e w5 ⟨rfl, hb⟩
        have HB5 := Lib.hid (HB4.out.trans (hb.mono HB4.out.size))
        clear hb
        simp only [List.flatten_cons, List.flatten_nil, List.append_nil]
        go_wp2_with fail
        go_ret2
        exact ⟨by rw [HN.out]; rfl, HB5.out⟩
end
end Go.Proofs.Ytjoplgdcpihmaaa
