/- The law TableAll: its walk. -/
import Derived.Test.YtjoplgdcpihmaaaTabW
import Derived.Test.YtjoplgdcpihmaaaSameA
import Derived.Deep.RegionHeld3
namespace Go.Proofs.Ytjoplgdcpihmaaa
open Go.RowKit
def gNum (s : List UInt8) : Int := match tableGet s with | some r => r.1 | none => 0
def gTab (s : List UInt8) : List HD := match tableGet s with | some r => r.2 | none => []
theorem hreads_nil (w : World) : HReads w (.slice none 0 0) [] := ⟨El.Reads.nil _, fun x hx => by cases hx⟩
theorem tget_gen (s : List UInt8) (w : World) (hs : s.length ≤ 140737488351232) :
    Calls Try.prog 44 #[.string (bs s)] w fun e w' => Below w.heap.size w w' ∧ ∃ V l, e = .returned (.tuple #[.int .i64 (gNum s), V, .bool (tableGet s).isSome]) ∧ HReads w' V l ∧ l.map (·.d) = gTab s ∧ l.length ≤ 16 ∧ ∀ h ∈ l, h.d.segs.length ≤ 40 := by
  refine (tget_any s w hs).mono ?_
  rintro e w' ⟨hb, ⟨n, L, lb, l, h1, rfl, h2, h3, h4, h5⟩ | ⟨h1, rfl⟩⟩
  · refine ⟨hb, _, l, ?_, h5, ?_, by omega, h4⟩
    · unfold gNum; rw [h1]; rfl
    · unfold gTab; rw [h1]; exact h2
  · refine ⟨hb, _, [], ?_, hreads_nil _, ?_, by simp, fun h hh => by cases hh⟩
    · unfold gNum; rw [h1]; rfl
    · unfold gTab; rw [h1]; rfl
theorem rtget_gen (s : List UInt8) (w : World) (hs : s.length ≤ 140737488351232) :
    Calls Try.prog 45 #[.string (bs s)] w fun e w' => Below w.heap.size w w' ∧ ∃ V l, e = .returned (.tuple #[.int .i64 (gNum s), V, .bool (tableGet s).isSome]) ∧ HReads w' V l ∧ l.map (·.d) = gTab s := by
  refine (rtget_any s w hs).mono ?_
  rintro e w' ⟨hb, ⟨n, L, A, l, c, h1, rfl, h2, h3, h4, h5⟩ | ⟨h1, rfl⟩⟩
  · refine ⟨hb, _, l, ?_, h5, ?_⟩
    · unfold gNum; rw [h1]; rfl
    · unfold gTab; rw [h1]; exact h2
  · refine ⟨hb, _, [], ?_, hreads_nil _, ?_⟩
    · unfold gNum; rw [h1]; rfl
    · unfold gTab; rw [h1]; rfl
section
attribute [local go_sem] bs_size bs_toList
attribute [local go_sem ↓] Go.wp_at_zero Go.wp_at_succ
set_option maxRecDepth 100000 in
set_option maxHeartbeats 8000000 in
theorem tableAll_walk (segs num : Int) (v : Value) (l : List HM) (x : Lim) (s : List UInt8) (w : World) (_a0 : -9223372036854775808 ≤ segs) (a1 : segs ≤ 9223372036854775807) (_b0 : -9223372036854775808 ≤ num) (_b1 : num ≤ 9223372036854775807) (hr : HReads w v l) (_hn : NilOk v) (hn : ∀ x ∈ l, x.A = none → x.c = 0) :
    Calls Try.prog 7 #[.int .i64 segs, .int .i64 num, v, limV x, .string (bs s)] w fun e w' => e = .returned (.bool true) ∧ Below w.heap.size w w' := by
  unfold limV
  have HN := Lib.hid hn
  have HMX := Lib.hid a1
  have HF1 := Lib.hid (Fr.one w #[.int .i64 x.sg, .int .i64 x.hb, .int .i64 x.sb, .int .i64 x.hn, .int .i64 x.sn, .int .i64 x.gr, .int .i64 x.bu] 48)
  have HB1 := Lib.hid (Fr.one w #[.int .i64 x.sg, .int .i64 x.hb, .int .i64 x.sb, .int .i64 x.hn, .int .i64 x.sn, .int .i64 x.gr, .int .i64 x.bu] 48).bel
  have S1 : Hid (w.heap.size < (w.alloc (.cells #[.int .i64 x.sg, .int .i64 x.hb, .int .i64 x.sb, .int .i64 x.hn, .int .i64 x.sn, .int .i64 x.gr, .int .i64 x.bu] 48)).heap.size) := by unfold Hid; simp
  have HR1 := Lib.hid (hr.below HB1.out)
  clear hr hn _a0 a1 _b0 _b1
  cases hf : few6B l with
  | false =>
    have HFF := Lib.hid hf
    clear hf
    go_enter Try.func7, Try.ntmps7
    go_wp2_with fail
    generalize w.alloc (.cells #[.int .i64 x.sg, .int .i64 x.hb, .int .i64 x.sb, .int .i64 x.hn, .int .i64 x.sn, .int .i64 x.gr, .int .i64 x.bu] 48) = W1 at *
    refine (few6_any _ l _ HR1.out).mono ?_
    rw [HFF.out]
    rintro e w2 ⟨rfl, rfl⟩
    go_wp2_with fail
    refine (awake6_any _).mono ?_
    rintro e w3 ⟨rfl, hb⟩
    have HB2 := Lib.hid (HB1.out.trans (hb.mono HB1.out.size))
    clear hb
    go_wp2_with fail
    go_ret
    exact ⟨rfl, HB2.out⟩
  | true =>
    have HFF := Lib.hid hf
    have HF := Lib.hid (few6_iff.1 hf)
    clear hf
    go_enter Try.func7, Try.ntmps7
    go_wp2_with fail
    generalize w.alloc (.cells #[.int .i64 x.sg, .int .i64 x.hb, .int .i64 x.sb, .int .i64 x.hn, .int .i64 x.sn, .int .i64 x.gr, .int .i64 x.bu] 48) = W1 at *
    refine (few6_any _ l _ HR1.out).mono ?_
    rw [HFF.out]
    rintro e w2 ⟨rfl, rfl⟩
    by_cases h3000 : (s.length : Int) ≤ 3000
    · have HS : Hid (s.length ≤ 140737488351232) := by unfold Hid; omega
      go_wp2_with fail
      refine (copied6_any _ l _ HR1.out HN.out HF.out.1 HF.out.2).mono ?_
      rintro e w3 ⟨hb, A2, l2, c2, rfl, hd2, hr2⟩
      have HB3 := Lib.hid hb
      have HD2 := Lib.hid hd2
      have HQ2 := Lib.hid hr2
      have HL2 : Hid (l2.length ≤ 20) := by unfold Hid; have := congrArg List.length hd2; simp only [List.length_map] at this; have := HF.out.1; omega
      have HS2 : Hid (∀ h ∈ l2, h.d.segs.length ≤ 60) := fun h hh => by
        obtain ⟨h2, h3, h4⟩ := List.mem_map.1 (hd2 ▸ List.mem_map_of_mem (f := HM.d) hh)
        have := HF.out.2 h2 h3; rw [h4] at this; exact this
      clear hb hd2 hr2
      go_wp2_with fail
      refine (tput_val num _ l2 _ HQ2.out (by have := HL2.out; omega) (fun h hh => by have := HS2.out h hh; omega) _ rfl).mono ?_
      rw [HD2.out]
      rintro e w4 ⟨rfl, hb⟩
      have HB4 := Lib.hid (HB3.out.trans (hb.mono HB3.out.size))
      clear hb HB3 HD2 HQ2 HL2 HS2
      unfold putAns
      go_wp2_with fail
      refine (rtput_any num _ l _ (HR1.out.below HB4.out) (by have := HF.out.1; omega) (fun h hh => by have := HF.out.2 h hh; omega)).mono ?_
      rintro e w5 ⟨rfl, hb⟩
      have HB5 := Lib.hid (HB4.out.trans (hb.mono HB4.out.size))
      clear hb HB4
      unfold putAns
      generalize tablePut num (l.map (·.d)) = PT at *
      go_wp2_with fail
      refine (tget_gen s _ HS.out).mono ?_
      rintro e w6 ⟨hb, V5, l5, rfl, hr5, hd5, hl5, hs5⟩
      have HB6 := Lib.hid (HB5.out.trans (hb.mono HB5.out.size))
      have HG5' := Lib.hid hr5
      have HD5 := Lib.hid hd5
      have HL5 : Hid (l5.length ≤ 100000) := by unfold Hid; omega
      have HS5 : Hid (∀ h ∈ l5, h.d.segs.length ≤ 1000000) := fun h hh => by have := hs5 h hh; omega
      clear hb hr5 hd5 hl5 hs5 HB5
      go_wp2_with fail
      refine (rtget_gen s _ HS.out).mono ?_
      rintro e w7 ⟨hb, V6, l6, rfl, hr6, hd6⟩
      have HB7 := Lib.hid (HB6.out.trans (hb.mono HB6.out.size))
      have HG5 := Lib.hid (HG5'.out.below hb)
      have HG6 := Lib.hid hr6
      have HGE : Hid (l5.map (·.d) = l6.map (·.d)) := HD5.out.trans hd6.symm
      clear hb hr6 hd6 HG5' HD5 HB6
      generalize gNum s = gn at *
      generalize (tableGet s).isSome = gok at *
      have HR7 := Lib.hid (HR1.out.below HB7.out)
      have e3 : (∀ j : Nat, w7.cell? ⟨w.heap.size, j, none⟩ = (#[.int .i64 x.sg, .int .i64 x.hb, .int .i64 x.sb, .int .i64 x.hn, .int .i64 x.sn, .int .i64 x.gr, .int .i64 x.bu] : Array Value)[j]?) := fun j => (HB7.out.cell (p := ⟨w.heap.size, j, none⟩) S1.out).trans (HF1.out.cells (i := 0) rfl rfl j)
      have s3 : w.heap.size < w7.heap.size := Nat.lt_of_lt_of_le S1.out HB7.out.size
      have E3 := Lib.hid e3
      have S3 := Lib.hid s3
      have HBT := Lib.hid (HB1.out.trans (HB7.out.mono HB1.out.size))
      clear HB7 HR1 HF1 S1 HB1
      have HB := Lib.hid (Below.refl w7.heap.size w7)
      have HO : True := trivial
      have HOD : True := trivial
      go_upto_region 7 with fail
      go_region_held3 (fun w' => (∀ j : Nat, w'.cell? ⟨w.heap.size, j, none⟩ = (#[.int .i64 x.sg, .int .i64 x.hb, .int .i64 x.sb, .int .i64 x.hn, .int .i64 x.sn, .int .i64 x.gr, .int .i64 x.bu] : Array Value)[j]?)) (exact e3)
        ((first | (go_at_call 46; refine (climit_any x _).mono ?_; rintro e v1 ⟨rfl, hb⟩; have HB' := Lib.hid (HB.out.trans (by first | exact hb.mono HB.out.size | exact (below_of_drew hb).mono HB.out.size)); clear HB hb e3 s3; have HB := HB'; clear HB'; have e3 : (∀ j : Nat, v1.cell? ⟨w.heap.size, j, none⟩ = (#[.int .i64 x.sg, .int .i64 x.hb, .int .i64 x.sb, .int .i64 x.hn, .int .i64 x.sn, .int .i64 x.gr, .int .i64 x.bu] : Array Value)[j]?) := fun j => (HB.out.cell (p := ⟨w.heap.size, j, none⟩) S3.out).trans (E3.out j); have s3 : w.heap.size < v1.heap.size := Nat.lt_of_lt_of_le S3.out HB.out.size) | (go_at_call 47; refine (rclimit_any x _).mono ?_; rintro e v1 ⟨rfl, hb⟩; have HB' := Lib.hid (HB.out.trans (by first | exact hb.mono HB.out.size | exact (below_of_drew hb).mono HB.out.size)); clear HB hb e3 s3; have HB := HB'; clear HB'; have e3 : (∀ j : Nat, v1.cell? ⟨w.heap.size, j, none⟩ = (#[.int .i64 x.sg, .int .i64 x.hb, .int .i64 x.sb, .int .i64 x.hn, .int .i64 x.sn, .int .i64 x.gr, .int .i64 x.bu] : Array Value)[j]?) := fun j => (HB.out.cell (p := ⟨w.heap.size, j, none⟩) S3.out).trans (E3.out j); have s3 : w.heap.size < v1.heap.size := Nat.lt_of_lt_of_le S3.out HB.out.size) | (go_at_call 42; refine (copied6_any _ l _ (HR7.out.below HB.out) HN.out HF.out.1 HF.out.2).mono ?_; rintro e v1 ⟨hb, A3, l3, c3, rfl, hd3, hr3⟩; have HB' := Lib.hid (HB.out.trans (by first | exact hb.mono HB.out.size | exact (below_of_drew hb).mono HB.out.size)); clear HB hb e3 s3; have HB := HB'; clear HB'; have e3 : (∀ j : Nat, v1.cell? ⟨w.heap.size, j, none⟩ = (#[.int .i64 x.sg, .int .i64 x.hb, .int .i64 x.sb, .int .i64 x.hn, .int .i64 x.sn, .int .i64 x.gr, .int .i64 x.bu] : Array Value)[j]?) := fun j => (HB.out.cell (p := ⟨w.heap.size, j, none⟩) S3.out).trans (E3.out j); have s3 : w.heap.size < v1.heap.size := Nat.lt_of_lt_of_le S3.out HB.out.size; clear HO HOD; have HO := Lib.hid hr3; have HOD := Lib.hid hd3; clear hr3 hd3) | (go_at_call 48; refine (tcheck_any segs _ _ _ HO.out HMX.out (by have := congrArg List.length HOD.out; simp only [List.length_map] at this; have := HF.out.1; omega) (fun h hh => by obtain ⟨h2, h3, h4⟩ := List.mem_map.1 (HOD.out ▸ List.mem_map_of_mem (f := HM.d) hh); have := HF.out.2 h2 h3; rw [h4] at this; omega)).mono ?_; rw [HOD.out]; rintro e v1 ⟨rfl, hb⟩; have HB' := Lib.hid (HB.out.trans (by first | exact hb.mono HB.out.size | exact (below_of_drew hb).mono HB.out.size)); clear HB hb e3 s3; have HB := HB'; clear HB'; have e3 : (∀ j : Nat, v1.cell? ⟨w.heap.size, j, none⟩ = (#[.int .i64 x.sg, .int .i64 x.hb, .int .i64 x.sb, .int .i64 x.hn, .int .i64 x.sn, .int .i64 x.gr, .int .i64 x.bu] : Array Value)[j]?) := fun j => (HB.out.cell (p := ⟨w.heap.size, j, none⟩) S3.out).trans (E3.out j); have s3 : w.heap.size < v1.heap.size := Nat.lt_of_lt_of_le S3.out HB.out.size) | (go_at_call 49; refine (rcheck_any segs _ l _ (HR7.out.below HB.out) (by have := HF.out.1; omega) (fun h hh => by have := HF.out.2 h hh; omega)).mono ?_; rintro e v1 ⟨rfl, hb⟩; have HB' := Lib.hid (HB.out.trans (by first | exact hb.mono HB.out.size | exact (below_of_drew hb).mono HB.out.size)); clear HB hb e3 s3; have HB := HB'; clear HB'; have e3 : (∀ j : Nat, v1.cell? ⟨w.heap.size, j, none⟩ = (#[.int .i64 x.sg, .int .i64 x.hb, .int .i64 x.sb, .int .i64 x.hn, .int .i64 x.sn, .int .i64 x.gr, .int .i64 x.bu] : Array Value)[j]?) := fun j => (HB.out.cell (p := ⟨w.heap.size, j, none⟩) S3.out).trans (E3.out j); have s3 : w.heap.size < v1.heap.size := Nat.lt_of_lt_of_le S3.out HB.out.size) | (go_at_call 50; refine (tsame_any _ _ l5 l6 _ (HG5.out.below HB.out) (HG6.out.below HB.out) HGE.out HL5.out HS5.out).mono ?_; rintro e v1 ⟨rfl, hb⟩; have HB' := Lib.hid (HB.out.trans (by first | exact hb.mono HB.out.size | exact (below_of_drew hb).mono HB.out.size)); clear HB hb e3 s3; have HB := HB'; clear HB'; have e3 : (∀ j : Nat, v1.cell? ⟨w.heap.size, j, none⟩ = (#[.int .i64 x.sg, .int .i64 x.hb, .int .i64 x.sb, .int .i64 x.hn, .int .i64 x.sn, .int .i64 x.gr, .int .i64 x.bu] : Array Value)[j]?) := fun j => (HB.out.cell (p := ⟨w.heap.size, j, none⟩) S3.out).trans (E3.out j); have s3 : w.heap.size < v1.heap.size := Nat.lt_of_lt_of_le S3.out HB.out.size) | (go_at_call 40; refine (awake6_any _).mono ?_; rintro e v1 ⟨rfl, hb⟩; have HB' := Lib.hid (HB.out.trans (by first | exact hb.mono HB.out.size | exact (below_of_drew hb).mono HB.out.size)); clear HB hb e3 s3; have HB := HB'; clear HB'; have e3 : (∀ j : Nat, v1.cell? ⟨w.heap.size, j, none⟩ = (#[.int .i64 x.sg, .int .i64 x.hb, .int .i64 x.sb, .int .i64 x.hn, .int .i64 x.sn, .int .i64 x.gr, .int .i64 x.bu] : Array Value)[j]?) := fun j => (HB.out.cell (p := ⟨w.heap.size, j, none⟩) S3.out).trans (E3.out j); have s3 : w.heap.size < v1.heap.size := Nat.lt_of_lt_of_le S3.out HB.out.size)))
      go_wp2_with fail
      go_ret
      exact ⟨rfl, HBT.out.trans (HB.out.mono HBT.out.size)⟩
    · go_wp2_with fail
      refine (awake6_any _).mono ?_
      rintro e w3 ⟨rfl, hb⟩
      have HB2 := Lib.hid (HB1.out.trans (hb.mono HB1.out.size))
      clear hb
      go_wp2_with fail
      go_ret
      exact ⟨rfl, HB2.out⟩
end
end Go.Proofs.Ytjoplgdcpihmaaa
