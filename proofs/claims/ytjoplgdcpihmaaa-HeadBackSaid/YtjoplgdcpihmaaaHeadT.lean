/- The law HeadBack: its walk. -/
import Derived.Test.YtjoplgdcpihmaaaHeadS
import Derived.Test.YtjoplgdcpihmaaaFlip
import Derived.Test.YtjoplgdcpihmaaaOpen
namespace Go.Proofs.Ytjoplgdcpihmaaa
open Go.RowKit
theorem filled_some (v : Int) (w : World) (h0 : 0 ≤ v) (h1 : v ≤ 100000) :
    Calls Try.prog 37 #[.int .i64 v] w fun e w' => ∃ l : List UInt8, l.length = 256 ∧ e = .returned (.string (bs l)) ∧ Below w.heap.size w w' :=
  (filled_any v w h0 h1).mono fun _ _ ⟨l, h, he, hw⟩ => ⟨l, h, he, hw ▸ (Below.refl _ _).alloc (Nat.le_refl _) _⟩
section
attribute [local go_sem] bs_size bs_append bs_extract bs_toList List.length_append
attribute [local go_sem ↓] Go.wp_at_zero Go.wp_at_succ
set_option maxRecDepth 100000 in
set_option maxHeartbeats 4000000 in
theorem headBack_walk (h : Hd) (v : Value) (l : List Ent) (num : Int) (more : List UInt8) (bit : Int) (w : World) (hr : EE.Reads w v l) (hn : NilOk v) (a0 : -9223372036854775808 ≤ num) (a1 : num ≤ 9223372036854775807) (b0 : -9223372036854775808 ≤ bit) (b1 : bit ≤ 9223372036854775807) :
    Calls Try.prog 4 #[.agg #[.int .i64 h.house, .int .i64 h.gen, .int .i64 h.life, .int .i64 h.seq, .int .i64 h.next, .int .i64 h.clock, .int .i64 h.sb, .int .i64 h.sn, v], .int .i64 num, .string (bs more), .int .i64 bit] w fun e w' => e = .returned (.bool true) ∧ Below w.heap.size w w' := by
  have hr' := hr
  obtain ⟨A, c, rfl, hc, -⟩ := hr'
  have HN := Lib.hid hn
  have HB00 := Lib.hid ((Below.refl w.heap.size w).alloc (Nat.le_refl _) (.cells #[.int .i64 h.house, .int .i64 h.gen, .int .i64 h.life, .int .i64 h.seq, .int .i64 h.next, .int .i64 h.clock, .int .i64 h.sb, .int .i64 h.sn, .slice A l.length c] 24))
  have HR := Lib.hid (hr.below HB00.out)
  have E3 := Lib.hid (fun j => cell_of_row _ _ j _ _ _ (heap_alloc_new w (.cells #[.int .i64 h.house, .int .i64 h.gen, .int .i64 h.life, .int .i64 h.seq, .int .i64 h.next, .int .i64 h.clock, .int .i64 h.sb, .int .i64 h.sn, .slice A l.length c] 24)))
  have S3 : Hid (w.heap.size < (w.alloc (.cells #[.int .i64 h.house, .int .i64 h.gen, .int .i64 h.life, .int .i64 h.seq, .int .i64 h.next, .int .i64 h.clock, .int .i64 h.sb, .int .i64 h.sn, .slice A l.length c] 24)).heap.size) := by unfold Hid; simp
  have HB := Lib.hid (Below.refl (w.alloc (.cells #[.int .i64 h.house, .int .i64 h.gen, .int .i64 h.life, .int .i64 h.seq, .int .i64 h.next, .int .i64 h.clock, .int .i64 h.sb, .int .i64 h.sn, .slice A l.length c] 24)).heap.size (w.alloc (.cells #[.int .i64 h.house, .int .i64 h.gen, .int .i64 h.life, .int .i64 h.seq, .int .i64 h.next, .int .i64 h.clock, .int .i64 h.sb, .int .i64 h.sn, .slice A l.length c] 24)))
  clear hr hn
  have e3 : True := trivial
  have s3 : True := trivial
  cases hf : few8B l more with
  | false =>
    have HF := Lib.hid hf
    clear hf
    go_enter Try.func4, Try.ntmps4
    go_wp2_with fail
    refine (few8_val h _ l more false _ HR.out HF.out).mono ?_
    rintro e w1 ⟨rfl, hb⟩
    have HB' := Lib.hid (HB.out.trans (hb.mono HB.out.size)); clear HB hb e3 s3; have HB := HB'; clear HB'; have e3 : ∀ j : Nat, w1.cell? ⟨w.heap.size, j, none⟩ = _ := fun j => (HB.out.cell (p := ⟨w.heap.size, j, none⟩) S3.out).trans (E3.out j); have s3 : w.heap.size < w1.heap.size := Nat.lt_of_lt_of_le S3.out HB.out.size
    go_wp2_with fail
    refine (awake8_any _).mono ?_
    rintro e w2 ⟨rfl, hb⟩
    have HB' := Lib.hid (HB.out.trans (hb.mono HB.out.size)); clear HB hb e3 s3; have HB := HB'; clear HB'; have e3 : ∀ j : Nat, w2.cell? ⟨w.heap.size, j, none⟩ = _ := fun j => (HB.out.cell (p := ⟨w.heap.size, j, none⟩) S3.out).trans (E3.out j); have s3 : w.heap.size < w2.heap.size := Nat.lt_of_lt_of_le S3.out HB.out.size
    go_wp2
    go_ret
    exact ⟨rfl, HB00.out.trans (HB.out.mono HB00.out.size)⟩
  | true =>
    have hle := few8_le hf
    have HF := Lib.hid hf
    clear hf
    have hp := placeOf_bd num 200 (by decide)
    generalize hpp : placeOf num 200 = pn at *
    have HPN := Lib.hid hpp
    clear hpp
    have L1 : Hid (l.length * 24 ≤ 140737488351232) := by unfold Hid; omega
    have L5 : Hid (l.length ≤ 1000) := by unfold Hid; omega
    have L6 : Hid (l.length ≤ 40) := hle.1
    have ll : (l.length : Int) ≤ 40 := by omega
    have lm : (more.length : Int) ≤ 7680 := by omega
    clear hle
    go_enter Try.func4, Try.ntmps4
    go_wp2_with fail
    refine (few8_val h _ l more true _ HR.out HF.out).mono ?_
    rintro e w1 ⟨rfl, hb⟩
    have HB' := Lib.hid (HB.out.trans (hb.mono HB.out.size)); clear HB hb e3 s3; have HB := HB'; clear HB'; have e3 : ∀ j : Nat, w1.cell? ⟨w.heap.size, j, none⟩ = _ := fun j => (HB.out.cell (p := ⟨w.heap.size, j, none⟩) S3.out).trans (E3.out j); have s3 : w.heap.size < w1.heap.size := Nat.lt_of_lt_of_le S3.out HB.out.size
    go_wp2_with fail
    go_loopw [9, 10] (fun x i wr => ∃ (k : Nat) (body : List UInt8), k ≤ l.length ∧ i = .int .i64 k ∧ x = .string (bs body) ∧ body.length = k * 256 ∧ Below (w.alloc (.cells #[.int .i64 h.house, .int .i64 h.gen, .int .i64 h.life, .int .i64 h.seq, .int .i64 h.next, .int .i64 h.clock, .int .i64 h.sb, .int .i64 h.sn, .slice A l.length c] 24)).heap.size (w.alloc (.cells #[.int .i64 h.house, .int .i64 h.gen, .int .i64 h.life, .int .i64 h.seq, .int .i64 h.next, .int .i64 h.clock, .int .i64 h.sb, .int .i64 h.sn, .slice A l.length c] 24)) wr) (fun _ i _ => l.length - (intOf i).toNat)
    case atStart => exact ⟨0, [], by omega, rfl, rfl, rfl, HB.out⟩
    clear HB e3 s3
    case round =>
      obtain ⟨k, body, hk, rfl, rfl, hbl, hbb⟩ := hrel
      have HB := Lib.hid hbb
      have HBL := Lib.hid hbl
      have lb : (body.length : Int) ≤ 10240 := by omega
      clear hbb hbl
      have e3 : ∀ j : Nat, wr.cell? ⟨w.heap.size, j, none⟩ = _ := fun j => (HB.out.cell (p := ⟨w.heap.size, j, none⟩) S3.out).trans (E3.out j); have s3 : w.heap.size < wr.heap.size := Nat.lt_of_lt_of_le S3.out HB.out.size
      by_cases hlt : k < l.length
      · go_wp2_with fail
        refine (place_any num 200 _ a0 a1 (by decide) (by decide)).mono ?_
        rintro e w2 ⟨rfl, rfl⟩
        rw [HPN.out]
        go_wp2_with fail
        refine (filled_some _ _ (by omega) (by omega)).mono ?_
        rintro e w2 ⟨f, hfl, rfl, hb⟩
        have HFL := Lib.hid hfl
        have lf : (f.length : Int) ≤ 256 := by omega
        clear hfl
        have HB' := Lib.hid (HB.out.trans (hb.mono HB.out.size)); clear HB hb e3 s3; have HB := HB'; clear HB'; have e3 : ∀ j : Nat, w2.cell? ⟨w.heap.size, j, none⟩ = _ := fun j => (HB.out.cell (p := ⟨w.heap.size, j, none⟩) S3.out).trans (E3.out j); have s3 : w.heap.size < w2.heap.size := Nat.lt_of_lt_of_le S3.out HB.out.size
        go_wp2
        go_roundw
        case rel => exact ⟨k + 1, body ++ f, by omega, by go_num, rfl, by rw [List.length_append, HBL.out, HFL.out]; omega, HB.out⟩
        case measure => simp only [intOf]; omega
      · have HK : Hid (k = l.length) := by unfold Hid; omega
        have HBL2 : Hid (body.length = l.length * 256) := by unfold Hid; rw [HBL.out, HK.out]
        clear hk HBL
        have hx120 : ByteArray.mk #[120] = bs [120] := rfl
        cases hcb : checkB h l with
        | false =>
          have HCB := Lib.hid hcb
          have HP : Hid (headPut h l body = none) := by unfold Hid headPut; rw [if_neg (fun hh => by rw [hcb] at hh; cases hh.1)]
          clear hcb
          have L3 : Hid (body.length ≤ 140737488351232) := by unfold Hid; omega
          go_wp2_with fail
          refine (copied8_any h _ l _ (HR.out.below HB.out) HN.out L5.out).mono ?_
          rintro e w2 ⟨hb, A2, c2, ho, rfl⟩
          have HB' := Lib.hid (HB.out.trans (hb.mono HB.out.size)); clear HB hb e3 s3; have HB := HB'; clear HB'; have e3 : ∀ j : Nat, w2.cell? ⟨w.heap.size, j, none⟩ = _ := fun j => (HB.out.cell (p := ⟨w.heap.size, j, none⟩) S3.out).trans (E3.out j); have s3 : w.heap.size < w2.heap.size := Nat.lt_of_lt_of_le S3.out HB.out.size
          have HO := Lib.hid ho.reads
          clear ho
          go_wp2_with fail
          refine (headPut_none h _ l body _ HO.out L1.out L3.out HP.out).mono ?_
          rintro e w3 ⟨rfl, hb⟩
          clear HO
          have HB' := Lib.hid (HB.out.trans (hb.mono HB.out.size)); clear HB hb e3 s3; have HB := HB'; clear HB'; have e3 : ∀ j : Nat, w3.cell? ⟨w.heap.size, j, none⟩ = _ := fun j => (HB.out.cell (p := ⟨w.heap.size, j, none⟩) S3.out).trans (E3.out j); have s3 : w.heap.size < w3.heap.size := Nat.lt_of_lt_of_le S3.out HB.out.size
          go_wp2_with fail
          refine (copied8_any h _ l _ (HR.out.below HB.out) HN.out L5.out).mono ?_
          rintro e w4 ⟨hb, A2, c2, ho, rfl⟩
          have HB' := Lib.hid (HB.out.trans (hb.mono HB.out.size)); clear HB hb e3 s3; have HB := HB'; clear HB'; have e3 : ∀ j : Nat, w4.cell? ⟨w.heap.size, j, none⟩ = _ := fun j => (HB.out.cell (p := ⟨w.heap.size, j, none⟩) S3.out).trans (E3.out j); have s3 : w.heap.size < w4.heap.size := Nat.lt_of_lt_of_le S3.out HB.out.size
          have HO := Lib.hid ho.reads
          clear ho
          go_wp2_with fail
          refine (check_val h _ l false _ HO.out L1.out HCB.out).mono ?_
          rintro e w5 ⟨rfl, hb⟩
          clear HO
          have HB' := Lib.hid (HB.out.trans (hb.mono HB.out.size)); clear HB hb e3 s3; have HB := HB'; clear HB'; have e3 : ∀ j : Nat, w5.cell? ⟨w.heap.size, j, none⟩ = _ := fun j => (HB.out.cell (p := ⟨w.heap.size, j, none⟩) S3.out).trans (E3.out j); have s3 : w.heap.size < w5.heap.size := Nat.lt_of_lt_of_le S3.out HB.out.size
          go_wp2_with fail
          refine (awake8_any _).mono ?_
          rintro e w6 ⟨rfl, hb⟩
          have HB' := Lib.hid (HB.out.trans (hb.mono HB.out.size)); clear HB hb e3 s3; have HB := HB'; clear HB'; have e3 : ∀ j : Nat, w6.cell? ⟨w.heap.size, j, none⟩ = _ := fun j => (HB.out.cell (p := ⟨w.heap.size, j, none⟩) S3.out).trans (E3.out j); have s3 : w.heap.size < w6.heap.size := Nat.lt_of_lt_of_le S3.out HB.out.size
          go_wp2
          go_ret
          exact ⟨rfl, HB00.out.trans (HB.out.mono HB00.out.size)⟩
        | true =>
          have HCB := Lib.hid hcb
          obtain ⟨s, hs⟩ : ∃ s, headPut h l body = some s := ⟨_, headPut_is hcb HBL2.out⟩
          obtain ⟨hg, hsl⟩ := get_put hs more
          have hss : sumOf s body = crcOf (s.take 252 ++ body) := sumOf_of s body
          have HS := Lib.hid hs
          have HG := Lib.hid hg
          have HSL := Lib.hid hsl
          have ls : (s.length : Int) ≤ 256 := by omega
          have ls2 : (256 : Int) ≤ (s.length : Int) := by omega
          have ls3 : (s.length : Int) = 256 := by omega
          generalize hz : sumOf s body = z at *
          have HZ := Lib.hid hz
          have HSS := Lib.hid hss
          have HP2 : Hid (headPut h l (body ++ [120]) = none) := by unfold Hid headPut; rw [if_neg]; rintro ⟨-, hh⟩; rw [List.length_append, List.length_singleton, HBL2.out] at hh; omega
          have L3 : Hid (body.length ≤ 140737488351232) := by unfold Hid; omega
          have L4 : Hid (s.length ≤ 140737488351232) := by unfold Hid; omega
          have L7 : Hid ((s ++ more).length ≤ 140737488351232) := by unfold Hid; rw [List.length_append]; omega
          have L8 : Hid ((body ++ [120]).length ≤ 140737488351232) := by unfold Hid; rw [List.length_append, List.length_singleton]; omega
          have L9 : Hid (l.length ≤ 100000) := by unfold Hid; have := L6.out; omega
          have HBI : Hid ((body.length : Int) = (l.length : Int) * 256) := by unfold Hid; rw [HBL2.out]; omega
          clear hcb hs hg hsl hz hss
          go_wp2_with fail
          refine (copied8_any h _ l _ (HR.out.below HB.out) HN.out L5.out).mono ?_
          rintro e w2 ⟨hb, A2, c2, ho, rfl⟩
          have HB' := Lib.hid (HB.out.trans (hb.mono HB.out.size)); clear HB hb e3 s3; have HB := HB'; clear HB'; have e3 : ∀ j : Nat, w2.cell? ⟨w.heap.size, j, none⟩ = _ := fun j => (HB.out.cell (p := ⟨w.heap.size, j, none⟩) S3.out).trans (E3.out j); have s3 : w.heap.size < w2.heap.size := Nat.lt_of_lt_of_le S3.out HB.out.size
          have HO := Lib.hid ho.reads
          clear ho
          go_wp2_with fail
          refine (headPut_some h _ l body s _ HO.out L1.out L3.out HS.out).mono ?_
          rintro e w3 ⟨rfl, hb⟩
          clear HO
          have HB' := Lib.hid (HB.out.trans (hb.mono HB.out.size)); clear HB hb e3 s3; have HB := HB'; clear HB'; have e3 : ∀ j : Nat, w3.cell? ⟨w.heap.size, j, none⟩ = _ := fun j => (HB.out.cell (p := ⟨w.heap.size, j, none⟩) S3.out).trans (E3.out j); have s3 : w.heap.size < w3.heap.size := Nat.lt_of_lt_of_le S3.out HB.out.size
          go_wp2_with fail
          refine (copied8_any h _ l _ (HR.out.below HB.out) HN.out L5.out).mono ?_
          rintro e w4 ⟨hb, A2, c2, ho, rfl⟩
          have HB' := Lib.hid (HB.out.trans (hb.mono HB.out.size)); clear HB hb e3 s3; have HB := HB'; clear HB'; have e3 : ∀ j : Nat, w4.cell? ⟨w.heap.size, j, none⟩ = _ := fun j => (HB.out.cell (p := ⟨w.heap.size, j, none⟩) S3.out).trans (E3.out j); have s3 : w.heap.size < w4.heap.size := Nat.lt_of_lt_of_le S3.out HB.out.size
          have HO := Lib.hid ho.reads
          clear ho
          go_wp2_with fail
          refine (check_val h _ l true _ HO.out L1.out HCB.out).mono ?_
          rintro e w4' ⟨rfl, hb⟩
          clear HO
          have HB' := Lib.hid (HB.out.trans (hb.mono HB.out.size)); clear HB hb e3 s3; have HB := HB'; clear HB'; have e3 : ∀ j : Nat, w4'.cell? ⟨w.heap.size, j, none⟩ = _ := fun j => (HB.out.cell (p := ⟨w.heap.size, j, none⟩) S3.out).trans (E3.out j); have s3 : w.heap.size < w4'.heap.size := Nat.lt_of_lt_of_le S3.out HB.out.size
          go_wp2_with fail
          refine (headGet_some (s ++ more) h l z _ L7.out HG.out).mono ?_
          rintro e w5 ⟨hb, A5, c5, ho5, rfl⟩
          have HB' := Lib.hid (HB.out.trans (hb.mono HB.out.size)); clear HB hb e3 s3; have HB := HB'; clear HB'; have e3 : ∀ j : Nat, w5.cell? ⟨w.heap.size, j, none⟩ = _ := fun j => (HB.out.cell (p := ⟨w.heap.size, j, none⟩) S3.out).trans (E3.out j); have s3 : w.heap.size < w5.heap.size := Nat.lt_of_lt_of_le S3.out HB.out.size
          have HQ5 := Lib.hid (ho5.reads.below ((Below.refl w5.heap.size w5).alloc (Nat.le_refl _) (.cells #[.int .i64 h.house, .int .i64 h.gen, .int .i64 h.life, .int .i64 h.seq, .int .i64 h.next, .int .i64 h.clock, .int .i64 h.sb, .int .i64 h.sn, .slice A5 l.length c5] 24)))
          clear ho5
          have HB5 := Lib.hid (HB.out.alloc HB.out.size (.cells #[.int .i64 h.house, .int .i64 h.gen, .int .i64 h.life, .int .i64 h.seq, .int .i64 h.next, .int .i64 h.clock, .int .i64 h.sb, .int .i64 h.sn, .slice A5 l.length c5] 24))
          have E13 := Lib.hid (fun j => cell_of_row _ _ j _ _ _ (heap_alloc_new w5 (.cells #[.int .i64 h.house, .int .i64 h.gen, .int .i64 h.life, .int .i64 h.seq, .int .i64 h.next, .int .i64 h.clock, .int .i64 h.sb, .int .i64 h.sn, .slice A5 l.length c5] 24)))
          have S13 : Hid (w5.heap.size < (w5.alloc (.cells #[.int .i64 h.house, .int .i64 h.gen, .int .i64 h.life, .int .i64 h.seq, .int .i64 h.next, .int .i64 h.clock, .int .i64 h.sb, .int .i64 h.sn, .slice A5 l.length c5] 24)).heap.size) := by unfold Hid; simp
          have HR5 := Lib.hid (HR.out.below HB5.out)
          have E3' : Hid (∀ j : Nat, (w5.alloc (.cells #[.int .i64 h.house, .int .i64 h.gen, .int .i64 h.life, .int .i64 h.seq, .int .i64 h.next, .int .i64 h.clock, .int .i64 h.sb, .int .i64 h.sn, .slice A5 l.length c5] 24)).cell? ⟨w.heap.size, j, none⟩ = (#[.int .i64 h.house, .int .i64 h.gen, .int .i64 h.life, .int .i64 h.seq, .int .i64 h.next, .int .i64 h.clock, .int .i64 h.sb, .int .i64 h.sn, .slice A l.length c] : Array Value)[j]?) := fun j => (HB5.out.cell (p := ⟨w.heap.size, j, none⟩) S3.out).trans (E3.out j)
          have S3' : Hid (w.heap.size < (w5.alloc (.cells #[.int .i64 h.house, .int .i64 h.gen, .int .i64 h.life, .int .i64 h.seq, .int .i64 h.next, .int .i64 h.clock, .int .i64 h.sb, .int .i64 h.sn, .slice A5 l.length c5] 24)).heap.size) := Nat.lt_of_lt_of_le S3.out HB5.out.size
          clear HB E3 S3
          have E3 := E3'
          have S3 := S3'
          clear E3' S3'
          go_wp2_with fail
          generalize w5.alloc (.cells #[.int .i64 h.house, .int .i64 h.gen, .int .i64 h.life, .int .i64 h.seq, .int .i64 h.next, .int .i64 h.clock, .int .i64 h.sb, .int .i64 h.sn, .slice A5 l.length c5] 24) = W5 at *
          have HB := Lib.hid (Below.refl W5.heap.size W5)
          refine (copied8_any h _ l _ HR5.out HN.out L5.out).mono ?_
          clear e3 s3
          have e3 : True := trivial
          have e13 : True := trivial
          have s3 : True := trivial
          have s13 : True := trivial
          rintro e w6 ⟨hb, A2, c2, ho, rfl⟩
          have HB' := Lib.hid (HB.out.trans (hb.mono HB.out.size)); clear HB hb e3 e13 s3 s13; have HB := HB'; clear HB'; have e3 : ∀ j : Nat, w6.cell? ⟨w.heap.size, j, none⟩ = _ := fun j => (HB.out.cell (p := ⟨w.heap.size, j, none⟩) S3.out).trans (E3.out j); have e13 : ∀ j : Nat, w6.cell? ⟨w5.heap.size, j, none⟩ = _ := fun j => (HB.out.cell (p := ⟨w5.heap.size, j, none⟩) S13.out).trans (E13.out j); have s3 : w.heap.size < w6.heap.size := Nat.lt_of_lt_of_le S3.out HB.out.size; have s13 : w5.heap.size < w6.heap.size := Nat.lt_of_lt_of_le S13.out HB.out.size
          have HO := Lib.hid ho.reads
          clear ho
          go_wp2_with fail
          refine (headPut_none h _ l (body ++ [120]) _ HO.out L1.out L8.out HP2.out).mono ?_
          rintro e w7 ⟨rfl, hb⟩
          clear HO
          have HB' := Lib.hid (HB.out.trans (hb.mono HB.out.size)); clear HB hb e3 e13 s3 s13; have HB := HB'; clear HB'; have e3 : ∀ j : Nat, w7.cell? ⟨w.heap.size, j, none⟩ = _ := fun j => (HB.out.cell (p := ⟨w.heap.size, j, none⟩) S3.out).trans (E3.out j); have e13 : ∀ j : Nat, w7.cell? ⟨w5.heap.size, j, none⟩ = _ := fun j => (HB.out.cell (p := ⟨w5.heap.size, j, none⟩) S13.out).trans (E13.out j); have s3 : w.heap.size < w7.heap.size := Nat.lt_of_lt_of_le S3.out HB.out.size; have s13 : w5.heap.size < w7.heap.size := Nat.lt_of_lt_of_le S13.out HB.out.size
          go_wp2_with fail
          refine (same_any h _ _ l _ (HQ5.out.below HB.out) (HR5.out.below HB.out) L9.out).mono ?_
          rintro e w8 ⟨rfl, hb⟩
          have HB' := Lib.hid (HB.out.trans (hb.mono HB.out.size)); clear HB hb e3 e13 s3 s13; have HB := HB'; clear HB'; have e3 : ∀ j : Nat, w8.cell? ⟨w.heap.size, j, none⟩ = _ := fun j => (HB.out.cell (p := ⟨w.heap.size, j, none⟩) S3.out).trans (E3.out j); have e13 : ∀ j : Nat, w8.cell? ⟨w5.heap.size, j, none⟩ = _ := fun j => (HB.out.cell (p := ⟨w5.heap.size, j, none⟩) S13.out).trans (E13.out j); have s3 : w.heap.size < w8.heap.size := Nat.lt_of_lt_of_le S3.out HB.out.size; have s13 : w5.heap.size < w8.heap.size := Nat.lt_of_lt_of_le S13.out HB.out.size
          go_wp2_with fail
          refine (sum_val s body z _ L4.out L3.out HZ.out).mono ?_
          rintro e w9 ⟨rfl, hb⟩
          have HB' := Lib.hid (HB.out.trans (hb.mono HB.out.size)); clear HB hb e3 e13 s3 s13; have HB := HB'; clear HB'; have e3 : ∀ j : Nat, w9.cell? ⟨w.heap.size, j, none⟩ = _ := fun j => (HB.out.cell (p := ⟨w.heap.size, j, none⟩) S3.out).trans (E3.out j); have e13 : ∀ j : Nat, w9.cell? ⟨w5.heap.size, j, none⟩ = _ := fun j => (HB.out.cell (p := ⟨w5.heap.size, j, none⟩) S13.out).trans (E13.out j); have s3 : w.heap.size < w9.heap.size := Nat.lt_of_lt_of_le S3.out HB.out.size; have s13 : w5.heap.size < w9.heap.size := Nat.lt_of_lt_of_le S13.out HB.out.size
          clear hx120
          have hpb := placeOf_bd bit (8 * (252 + (body.length : Int))) (by omega)
          generalize hkk : placeOf bit (8 * (252 + (body.length : Int))) = kb at *
          have HKK := Lib.hid hkk
          clear hkk
          go_wp2_with fail
          refine (place_any bit _ _ b0 b1 (by omega) (by omega)).mono ?_
          rw [HKK.out]
          rintro e w10 ⟨rfl, rfl⟩
          have htl : (s.take 252).length = 252 := by rw [List.length_take, HSL.out]; rfl
          obtain ⟨T, hT⟩ : ∃ T, T = s.take 252 ++ body := ⟨_, rfl⟩
          have hTL : T.length = 252 + body.length := by rw [hT, List.length_append, htl]
          have hcv : ∀ W : World, (convert 9 38 (.string (bs (s.take 252 ++ body)))).run Try.prog W = .ok (.slice (some ⟨W.heap.size, 0, none⟩) T.length (grownCap W T.length 0 5)) (Lib.bytesWorld W 5 (bs T)) := fun W => by
            have h1 := Lib.run_convert_string_bytes (P := Try.prog) W 9 38 5 (bs T) Try.underlying9 Try.underlying38 Try.underlying5
            rw [bs_size] at h1; rw [← hT]; exact h1
          have HT := Lib.hid hT
          have HTL := Lib.hid hTL
          have hti : (T.length : Int) = 252 + (body.length : Int) := by omega
          have HTI := Lib.hid hti
          have hti1 : (252 : Int) ≤ (T.length : Int) := by omega
          have hti2 : (T.length : Int) ≤ 20000 := by omega
          clear hT hTL hti htl
          obtain ⟨kq, rfl⟩ := Int.eq_ofNat_of_zero_le hpb.1
          have hq8 : kq / 8 < T.length := by have := HTI.out; have := hpb.2; omega
          have HQ8 := Lib.hid hq8
          go_upto_region 17 with fail
          clear hcv
          have hC9 : ∀ j, j < T.length → (Lib.bytesWorld w9 5 (bs T)).cell? ⟨w9.heap.size, j, none⟩ = some (.int .u8 (vB (nth T j))) := fun j hj => bytes_cell w9 5 T j hj
          have hF9 : ∀ j, j < T.length → (Lib.bytesWorld w9 5 (bs T)).frozen? ⟨w9.heap.size, j, none⟩ = false := fun j hj => bytes_free w9 5 T j hj
          have hB9 : Below W5.heap.size W5 (Lib.bytesWorld w9 5 (bs T)) := HB.out.trans ((bytes_below w9 5 (bs T)).mono HB.out.size)
          have hs9 : w9.heap.size < (Lib.bytesWorld w9 5 (bs T)).heap.size := by rw [Lib.bytesWorld_size]; omega
          have hge9 := HB.out.size
          have hcap : T.length ≤ grownCap w9 T.length 0 5 := grownCap_ge _ _ _ _
          generalize Lib.bytesWorld w9 5 (bs T) = W9 at *
          generalize grownCap w9 T.length 0 5 = cap at *
          have C9 := Lib.hid hC9
          have F9 := Lib.hid hF9
          have B9 := Lib.hid hB9
          have G9 := Lib.hid hge9
          clear hC9 hF9 hB9 hge9 e3 e13 s3 s13 HB
          have hc := C9.out (kq / 8) HQ8.out
          have hf := F9.out (kq / 8) HQ8.out
          have hvb := vB_bd (nth T (kq / 8))
          go_upto_region 18 with fail
          have hm8 : kq % 8 < 8 := Nat.mod_lt _ (by decide)
          rw [flip_byte (nth T (kq / 8)) (kq % 8) hm8]
          have hC10 : ∀ j, j < T.length → (W9.setCell ⟨w9.heap.size, kq / 8, none⟩ (.int .u8 (vB (nth T (kq / 8) ^^^ bitB (kq % 8))))).cell? ⟨w9.heap.size, j, none⟩ = some (.int .u8 (vB (nth (T.set (kq / 8) (nth T (kq / 8) ^^^ bitB (kq % 8))) j))) := fun j hj => set_cell C9.out HQ8.out _ j hj
          have hB10 : Below W5.heap.size W5 (W9.setCell ⟨w9.heap.size, kq / 8, none⟩ (.int .u8 (vB (nth T (kq / 8) ^^^ bitB (kq % 8))))) := B9.out.setCell G9.out _
          have hcr := crcOf_set (c := nth T (kq / 8) ^^^ bitB (kq % 8)) HQ8.out (flip_ne _ _ hm8)
          have hz : z = crcOf T := by rw [HSS.out, HT.out]
          have hl' : (T.set (kq / 8) (nth T (kq / 8) ^^^ bitB (kq % 8))).length = T.length := List.length_set
          generalize T.set (kq / 8) (nth T (kq / 8) ^^^ bitB (kq % 8)) = T' at *
          generalize W9.setCell ⟨w9.heap.size, kq / 8, none⟩ (.int .u8 (vB (nth T (kq / 8) ^^^ bitB (kq % 8)))) = W10 at *
          have hsum : sumOf (T'.take 252) (T'.drop 252) = crcOf T' := by rw [sumOf_of, List.take_take, Nat.min_self, List.take_append_drop]
          generalize hz' : sumOf (T'.take 252) (T'.drop 252) = z' at *
          have hne : (z' != z) = true := by rw [bne_iff_ne, hsum, hz]; exact hcr
          have HZ' := Lib.hid hz'
          have M1 : Hid ((T'.take 252).length ≤ 140737488351232) := by unfold Hid; rw [List.length_take, hl']; omega
          have M2 : Hid ((T'.drop 252).length ≤ 140737488351232) := by unfold Hid; rw [List.length_drop, hl']; omega
          have hcv1 : (convert 38 9 (.slice (some ⟨w9.heap.size, 0, none⟩) 252 cap)).run Try.prog W10.drew = .ok (.string (bs (T'.take 252))) W10.drew := by
            have h1 := conv_bytes W10.drew w9.heap.size 0 cap (T'.take 252) (fun j hj => by rw [List.length_take] at hj; rw [Nat.zero_add, nth_take _ _ _ (by omega)]; exact hC10 j (by omega))
            rwa [List.length_take, hl', Nat.min_eq_left (by omega)] at h1
          have HB := Lib.hid hB10.drew
          clear hz' hsum hz hcr hB10 hc hf
          have hci : (252 : Int) ≤ (cap : Int) := by omega
          have hci2 : (T.length : Int) ≤ (cap : Int) := by omega
          by_cases hc252 : cap = 252
          · subst hc252
            have hcv2 : (convert 38 9 (.slice (some ⟨w9.heap.size, 0, none⟩) 0 0)).run Try.prog W10.drew = .ok (.string (bs (T'.drop 252))) W10.drew := by
              have h1 := conv_bytes W10.drew w9.heap.size 0 0 (T'.drop 252) (fun j hj => by rw [List.length_drop, hl'] at hj; omega)
              rw [List.length_drop, hl', show T.length - 252 = 0 by omega] at h1; exact h1
            clear hC10 hl'
            first | (go_region_law ((first | (go_simp; go_at_call 35; refine (sum_val (T'.take 252) (T'.drop 252) z' _ M1.out M2.out HZ'.out).mono ?_; rintro e v1 ⟨rfl, hb⟩; have HB' := Lib.hid (HB.out.trans (hb.mono HB.out.size)); clear HB hb; have HB := HB'; clear HB') | (go_simp; go_at_call 26; refine (awake8_any _).mono ?_; rintro e v2 ⟨rfl, hb⟩; have HB' := Lib.hid (HB.out.trans (hb.mono HB.out.size)); clear HB hb; have HB := HB'; clear HB') | fail))) | fail
            all_goals
              go_wp2
              go_ret
              exact ⟨rfl, HB00.out.trans ((HB5.out.trans (HB.out.mono HB5.out.size)).mono HB00.out.size)⟩
          · have hcv2 : (convert 38 9 (.slice (some ⟨w9.heap.size, 252, none⟩) (T.length - 252) (cap - 252))).run Try.prog W10.drew = .ok (.string (bs (T'.drop 252))) W10.drew := by
              have h1 := conv_bytes W10.drew w9.heap.size 252 (cap - 252) (T'.drop 252) (fun j hj => by rw [List.length_drop, hl'] at hj; rw [nth_drop]; exact hC10 (252 + j) (by omega))
              rwa [List.length_drop, hl'] at h1
            clear hC10 hl'
            first | (go_region_law ((first | (go_simp; go_at_call 35; refine (sum_val (T'.take 252) (T'.drop 252) z' _ M1.out M2.out HZ'.out).mono ?_; rintro e v1 ⟨rfl, hb⟩; have HB' := Lib.hid (HB.out.trans (hb.mono HB.out.size)); clear HB hb; have HB := HB'; clear HB') | (go_simp; go_at_call 26; refine (awake8_any _).mono ?_; rintro e v2 ⟨rfl, hb⟩; have HB' := Lib.hid (HB.out.trans (hb.mono HB.out.size)); clear HB hb; have HB := HB'; clear HB') | fail))) | fail
            all_goals
              go_wp2
              go_ret
              exact ⟨rfl, HB00.out.trans ((HB5.out.trans (HB.out.mono HB5.out.size)).mono HB00.out.size)⟩
end
end Go.Proofs.Ytjoplgdcpihmaaa
