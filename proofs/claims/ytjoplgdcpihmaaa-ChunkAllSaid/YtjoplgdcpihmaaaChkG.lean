/- Chunks: not too much (func 53), the chapter's own Make (func 56). -/
import Derived.Test.YtjoplgdcpihmaaaChkA
import Derived.Test.YtjoplgdcpihmaaaHeadS
namespace Go.Proofs.Ytjoplgdcpihmaaa
open Go.RowKit
def few13B (l : List Ent) (B : List (List UInt8)) : Bool := decide (l.length ≤ 30 ∧ B.length ≤ 30 ∧ ∀ b ∈ B, b.length ≤ 300)
theorem few13_iff {l : List Ent} {B : List (List UInt8)} : few13B l B = true ↔ l.length ≤ 30 ∧ B.length ≤ 30 ∧ ∀ b ∈ B, b.length ≤ 300 := by unfold few13B; simp
section
attribute [local go_sem] bs_size
set_option maxRecDepth 100000 in
set_option maxHeartbeats 4000000 in
theorem few13_any (h : Hd) (vE : Value) (l : List Ent) (v : Value) (B : List (List UInt8)) (w : World) (hE : EE.Reads w vE l) (hr : ES.Reads w v B) :
    Calls Try.prog 53 #[.agg #[.int .i64 h.house, .int .i64 h.gen, .int .i64 h.life, .int .i64 h.seq, .int .i64 h.next, .int .i64 h.clock, .int .i64 h.sb, .int .i64 h.sn, vE], v] w fun e w' => e = .returned (.bool (few13B l B)) ∧ Below w.heap.size w w' := by
  have hr' := hr
  obtain ⟨A, c, rfl, hc, -⟩ := hr'
  have hr' := hE
  obtain ⟨A2, c2, rfl, -⟩ := hr'
  have HB1 := Lib.hid (Fr.one w #[.int .i64 h.house, .int .i64 h.gen, .int .i64 h.life, .int .i64 h.seq, .int .i64 h.next, .int .i64 h.clock, .int .i64 h.sb, .int .i64 h.sn, .slice A2 l.length c2] 24).bel
  have HF1 := Lib.hid (Fr.one w #[.int .i64 h.house, .int .i64 h.gen, .int .i64 h.life, .int .i64 h.seq, .int .i64 h.next, .int .i64 h.clock, .int .i64 h.sb, .int .i64 h.sn, .slice A2 l.length c2] 24)
  have HR := Lib.hid (hr.below HB1.out)
  clear hr hE
  go_enter Try.func53, Try.ntmps53
  go_wp2_with fail
  generalize w.alloc (.cells #[.int .i64 h.house, .int .i64 h.gen, .int .i64 h.life, .int .i64 h.seq, .int .i64 h.next, .int .i64 h.clock, .int .i64 h.sb, .int .i64 h.sn, .slice A2 l.length c2] 24) = W1 at *
  go_loop [5] (fun i => ∃ k : Nat, k ≤ 30 ∧ k ≤ B.length ∧ i = .int .i64 k ∧ ∀ (j : Nat) (b : List UInt8), j < k → B[j]? = some b → b.length ≤ 300) (fun i => 30 - (intOf i).toNat)
  case atStart => exact ⟨0, by omega, by omega, rfl, fun j b hj => by omega⟩
  case round =>
    obtain ⟨k, hk30, hkl, rfl, hok⟩ := hrel
    have HOK := Lib.hid hok
    clear hok
    by_cases hin : k < B.length ∧ k < 30
    · obtain ⟨hlt, h30⟩ := hin
      obtain ⟨x, hx⟩ : ∃ x, B[k]? = some x := ⟨_, List.getElem?_eq_getElem hlt⟩
      obtain ⟨b, o, c', hv, hbw, e0⟩ := ES_at HR.out k x hx
      simp only [Value.slice.injEq] at hv
      obtain ⟨rfl, -, rfl⟩ := hv
      have HX := Lib.hid hx
      clear hx
      by_cases h300 : x.length ≤ 300
      · have HO2 : Hid (∀ (j : Nat) (y : List UInt8), j < k + 1 → B[j]? = some y → y.length ≤ 300) := fun j y hj hy => by
          rcases Nat.lt_or_ge j k with h | h
          · exact HOK.out j y h hy
          · obtain rfl : j = k := by omega
            have := HX.out
            rw [hy] at this; injection this with this; subst this; exact h300
        go_wp2
        go_round
        case rel => exact ⟨k + 1, by omega, by omega, by go_num, HO2.out⟩
        case measure => simp only [intOf]; omega
      · have HN : Hid (few13B l B = false) := by
          unfold Hid
          rw [Bool.eq_false_iff]; intro h
          exact h300 ((few13_iff.1 h).2.2 x (List.mem_of_getElem? HX.out))
        go_wp2
        go_ret
        exact ⟨ret_bool HN.out.symm, HB1.out⟩
    · have e8 : W1.cell? ⟨w.heap.size, 8, none⟩ = some (.slice A2 l.length c2) := HF1.out.cells (i := 0) rfl rfl 8
      have HV : Hid (few13B l B = (decide (l.length ≤ 30) && decide (B.length ≤ 30))) := by
        unfold Hid
        rw [Bool.eq_iff_iff, few13_iff, Bool.and_eq_true, decide_eq_true_eq, decide_eq_true_eq]
        constructor
        · rintro ⟨h1, h2, -⟩; omega
        · rintro ⟨h1, h2⟩
          refine ⟨by omega, by omega, fun b hb => ?_⟩
          obtain ⟨j, hj⟩ := List.getElem?_of_mem hb
          exact HOK.out j b (by have := (List.getElem?_eq_some_iff.1 hj).1; omega) hj
      have hex : ¬ (k : Int) < (B.length : Int) ∨ ((k : Int) < (B.length : Int) ∧ ¬ (k : Int) < 30) := by omega
      clear hin
      rcases hex with h1 | ⟨h1, h2⟩
      · by_cases hl : l.length ≤ 30
        · have hl1 : (l.length : Int) ≤ 30 := by omega
          go_wp2
          go_ret
          exact ⟨by rw [HV.out]; simp [hl] <;> omega, HB1.out⟩
        · have hl1 : ¬ (l.length : Int) ≤ 30 := by omega
          go_wp2
          go_ret
          exact ⟨by rw [HV.out]; simp [hl] <;> omega, HB1.out⟩
      · by_cases hl : l.length ≤ 30
        · have hl1 : (l.length : Int) ≤ 30 := by omega
          go_wp2
          go_ret
          exact ⟨by rw [HV.out]; simp [hl] <;> omega, HB1.out⟩
        · have hl1 : ¬ (l.length : Int) ≤ 30 := by omega
          go_wp2
          go_ret
          exact ⟨by rw [HV.out]; simp [hl] <;> omega, HB1.out⟩
end
section
attribute [local go_sem] bs_size bs_append
set_option maxRecDepth 100000 in
set_option maxHeartbeats 4000000 in
theorem refmake_any (h : Hd) (vE : Value) (l : List Ent) (v : Value) (B : List (List UInt8)) (w : World) (hE : EE.Reads w vE l) (hr : ES.Reads w v B) (hl : l.length * 24 ≤ 140737488351232) (hB : B.length ≤ 100000) :
    Calls Try.prog 56 #[.agg #[.int .i64 h.house, .int .i64 h.gen, .int .i64 h.life, .int .i64 h.seq, .int .i64 h.next, .int .i64 h.clock, .int .i64 h.sb, .int .i64 h.sn, vE], v] w fun e w' => e = .returned (.tuple #[.string (bs ((chunkPut h l B).getD [])), .bool (chunkPut h l B).isSome]) ∧ Below w.heap.size w w' := by
  have hr' := hr
  obtain ⟨A, c, rfl, hc, -⟩ := hr'
  have HB1 := Lib.hid (Fr.one w #[.int .i64 h.house, .int .i64 h.gen, .int .i64 h.life, .int .i64 h.seq, .int .i64 h.next, .int .i64 h.clock, .int .i64 h.sb, .int .i64 h.sn, vE] 24).bel
  have HF1 := Lib.hid (Fr.one w #[.int .i64 h.house, .int .i64 h.gen, .int .i64 h.life, .int .i64 h.seq, .int .i64 h.next, .int .i64 h.clock, .int .i64 h.sb, .int .i64 h.sn, vE] 24)
  have HR := Lib.hid (hr.below HB1.out)
  have HE := Lib.hid (hE.below HB1.out)
  clear hr hE
  go_enter Try.func56, Try.ntmps56
  go_wp2_with fail
  generalize w.alloc (.cells #[.int .i64 h.house, .int .i64 h.gen, .int .i64 h.life, .int .i64 h.seq, .int .i64 h.next, .int .i64 h.clock, .int .i64 h.sb, .int .i64 h.sn, vE] 24) = W1 at *
  go_loop [6, 7] (fun b i => ∃ k : Nat, k ≤ B.length ∧ i = .int .i64 k ∧ b = .string (bs (B.take k).flatten) ∧ ∀ (j : Nat) (b : List UInt8), j < k → B[j]? = some b → b.length = 256) (fun _ i => B.length - (intOf i).toNat)
  case atStart => exact ⟨0, by omega, rfl, rfl, fun j b hj => by omega⟩
  case round =>
    obtain ⟨k, hk, rfl, rfl, hok⟩ := hrel
    have HOK := Lib.hid hok
    clear hok
    by_cases hlt : k < B.length
    · obtain ⟨x, hx⟩ : ∃ x, B[k]? = some x := ⟨_, List.getElem?_eq_getElem hlt⟩
      obtain ⟨b, o, c', hv, hbw, e0⟩ := ES_at HR.out k x hx
      simp only [Value.slice.injEq] at hv
      obtain ⟨rfl, -, rfl⟩ := hv
      have HX := Lib.hid hx
      clear hx
      by_cases h256 : x.length = 256
      · have hne : ((x.length : Int) != 256) = false := by rw [h256]; decide
        have HO2 : Hid (∀ (j : Nat) (y : List UInt8), j < k + 1 → B[j]? = some y → y.length = 256) := fun j y hj hy => by
          rcases Nat.lt_or_ge j k with h | h
          · exact HOK.out j y h hy
          · obtain rfl : j = k := by omega
            have := HX.out
            rw [hy] at this; injection this with this; subst this; exact h256
        have HTK : Hid ((B.take (k + 1)).flatten = (B.take k).flatten ++ x) := by
          unfold Hid
          rw [List.take_add_one, HX.out, List.flatten_append]
          simp
        have hx6 : x.length ≤ 256 := by omega
        have hb6 : (B.take k).flatten.length ≤ 25600000 := by
          rw [flat_len (fun b hb => by
            obtain ⟨j, hj⟩ := List.getElem?_of_mem hb
            rw [List.getElem?_take] at hj
            split at hj
            · rename_i hjk; exact HOK.out j b hjk hj
            · cases hj), List.length_take]
          omega
        clear h256
        generalize (B.take k).flatten = body at *
        go_wp2
        go_round
        case rel => exact ⟨k + 1, by omega, by go_num, by rw [HTK.out], HO2.out⟩
        case measure => simp only [intOf]; omega
      · have hne : ((x.length : Int) != 256) = true := by rw [bne_iff_ne]; omega
        have HN : Hid (chunkPut h l B = none) := by
          unfold Hid chunkPut
          rw [if_neg]
          intro ha
          exact h256 (allB_iff.1 ha x (List.mem_of_getElem? HX.out))
        clear h256
        generalize (B.take k).flatten = body at *
        go_wp2
        go_ret2
        exact ⟨by rw [HN.out]; rfl, HB1.out⟩
    · have HALL : Hid (∀ b ∈ B, b.length = 256) := fun b hb => by
        obtain ⟨j, hj⟩ := List.getElem?_of_mem hb
        exact HOK.out j b (by have := (List.getElem?_eq_some_iff.1 hj).1; omega) hj
      have HFL := Lib.hid (flat_len HALL.out)
      have HCP : Hid (chunkPut h l B = (headPut h l B.flatten).map (· ++ B.flatten)) := by unfold Hid chunkPut; rw [if_pos (allB_iff.2 HALL.out)]
      have HLQ := Lib.hid hB
      have hkf : (B.take k).flatten = B.flatten := by rw [List.take_of_length_le (by omega)]
      rw [hkf]
      clear hkf
      have cc : ∀ j : Nat, W1.cell? ⟨w.heap.size, j, none⟩ = (#[.int .i64 h.house, .int .i64 h.gen, .int .i64 h.life, .int .i64 h.seq, .int .i64 h.next, .int .i64 h.clock, .int .i64 h.sb, .int .i64 h.sn, vE] : Array Value)[j]? := HF1.out.cells (i := 0) rfl rfl
      go_wp2_with fail
      refine (refheadPut_any h vE l B.flatten _ HE.out hl (by rw [HFL.out]; have := HLQ.out; omega)).mono ?_
      rintro e w3 ⟨rfl, hb⟩
      have HB3 := Lib.hid (HB1.out.trans (hb.mono HB1.out.size))
      clear hb cc HE
      have HPL0 : Hid (∀ p, headPut h l B.flatten = some p → p.length ≤ 256) := fun p hp => by have := (get_put hp []).2; omega
      generalize headPut h l B.flatten = r at *
      cases r with
      | none =>
        have HN : Hid (chunkPut h l B = none) := HCP.out
        go_wp2_with fail
        go_ret2
        exact ⟨by rw [HN.out]; rfl, HB3.out⟩
      | some p =>
        have HN : Hid (chunkPut h l B = some (p ++ B.flatten)) := HCP.out
        simp only [Option.getD_some, Option.isSome_some]
        have hp6 := HPL0.out p rfl
        have hb6 : B.flatten.length ≤ 25600000 := by rw [HFL.out]; have := HLQ.out; omega
        generalize B.flatten = body at *
        go_wp2_with fail
        go_ret2
        exact ⟨by rw [HN.out]; rfl, HB3.out⟩
end
end Go.Proofs.Ytjoplgdcpihmaaa
