/- Same over equal houses is true. -/
import Derived.Test.YtjoplgdcpihmaaaPlain6
import Derived.Test.YtjoplgdcpihmaaaFr
import Derived.Test.YtjoplgdcpihmaaaLimA
import Derived.Deep.RegionHeld3
import Derived.BigQuiet
import Derived.Deep.QuietTactic
namespace Go.Proofs.Ytjoplgdcpihmaaa
open Go.RowKit
section
set_option maxRecDepth 100000 in
set_option maxHeartbeats 2000000 in
theorem samelimit_any (x : Lim) (w : World) : Calls Try.prog 110 #[limV x, limV x] w fun e w' => e = .returned (.bool true) ∧ Below w.heap.size w w' := by
  have hb := Lib.hid (((Below.refl w.heap.size w).alloc (Nat.le_refl _) (.cells #[.int .i64 x.sg, .int .i64 x.hb, .int .i64 x.sb, .int .i64 x.hn, .int .i64 x.sn, .int .i64 x.gr, .int .i64 x.bu] 48)).alloc (by simp) (.cells #[.int .i64 x.sg, .int .i64 x.hb, .int .i64 x.sb, .int .i64 x.hn, .int .i64 x.sn, .int .i64 x.gr, .int .i64 x.bu] 48))
  unfold limV
  go_enter Try.func110, Try.ntmps110
  go_wp2_with fail
  go_ret
  exact ⟨rfl, hb.out⟩
set_option maxRecDepth 100000 in
set_option maxHeartbeats 8000000 in
theorem tsame_any (v v2 : Value) (l l2 : List HM) (w : World) (hr : HReads w v l) (hr2 : HReads w v2 l2) (hd : l.map (·.d) = l2.map (·.d)) (hl : l.length ≤ 100000) (hls : ∀ h ∈ l, h.d.segs.length ≤ 1000000) :
    Calls Try.prog 50 #[v, v2] w fun e w' => e = .returned (.bool true) ∧ Below w.heap.size w w' := by
  have hll : l2.length = l.length := by have := congrArg List.length hd; simp only [List.length_map] at this; omega
  have hr' := hr.1
  obtain ⟨A, c, rfl, hc, -⟩ := hr'
  have hr' := hr2.1
  obtain ⟨A2, cc2, rfl, hcc2, -⟩ := hr'
  have HR := Lib.hid hr
  have HR2 := Lib.hid hr2
  have HDD := Lib.hid hd
  have HLS := Lib.hid hls
  rw [hll] at HR2 ⊢
  have HLL := Lib.hid hll
  clear hr hr2 hd hls hll
  have HB0 := Lib.hid (Below.refl w.heap.size w)
  go_enter Try.func50, Try.ntmps50
  go_wp2
  go_loopw [5] (fun i wr => ∃ k : Nat, k ≤ l.length ∧ i = .int .i64 k ∧ Below w.heap.size w wr) (fun i _ => l.length - (intOf i).toNat)
  case atStart => exact ⟨0, by omega, rfl, HB0.out⟩
  clear HB0
  case round =>
    obtain ⟨k, hk, rfl, hb1⟩ := hrel
    obtain ⟨wk, rfl⟩ : ∃ wk, wk = wr := ⟨wr, rfl⟩
    have HBK := Lib.hid hb1
    by_cases hlt : k < l.length
    · obtain ⟨⟨d, XA, xc⟩, hx⟩ : ∃ x, l[k]? = some x := ⟨_, List.getElem?_eq_getElem hlt⟩
      obtain ⟨⟨dy, YA, yc⟩, hy⟩ : ∃ x, l2[k]? = some x := ⟨_, List.getElem?_eq_getElem (by rw [HLL.out]; exact hlt)⟩
      have hdd : d = dy := by
        have := congrArg (fun M : List HD => M[k]?) HDD.out
        simp only [List.getElem?_map, hx, hy, Option.map_some, Option.some.injEq] at this
        exact this
      subst hdd
      have hsl : d.segs.length ≤ 1000000 := HLS.out _ (List.mem_of_getElem? hx)
      obtain ⟨b, o, c', hv, hbw, hri, a0, a1, a2, a3, a4, a5, a6, a7, a8, a9⟩ := (HR.out.below HBK.out).cells k _ hx
      obtain ⟨b2, o2, c2', hv2, hbw2, hri2, d0, d1, d2, d3, d4, d5, d6, d7, d8, d9⟩ := (HR2.out.below HBK.out).cells k _ hy
      rw [HLL.out] at hv2
      simp only [Value.slice.injEq] at hv hv2
      obtain ⟨rfl, -, rfl⟩ := hv
      obtain ⟨rfl, -, rfl⟩ := hv2
      have HRI := Lib.hid hri
      have HRJ := Lib.hid hri2
      simp only at HRI HRJ a0 a1 a2 a3 a4 a5 a6 a7 a8 a9 d0 d1 d2 d3 d4 d5 d6 d7 d8 d9
      clear hri hri2 hx hy
      have HB := Lib.hid (Below.refl wk.heap.size wk)
      have i0 : (0 : Int) ≤ (k : Int) := by omega
      have i1 : (k : Int) < (l.length : Int) := by omega
      have HSL := Lib.hid hsl
      clear hsl
      have A9 := Lib.hid a9
      have D9 := Lib.hid d9
      go_upto_region 6 with fail
      go_region_held3 (fun w' => w'.cell? ⟨b, o + k * 10, none⟩ = some (.int .i64 d.st) ∧ w'.cell? ⟨b, o + k * 10 + 1, none⟩ = some (.int .i64 d.gn) ∧ w'.cell? ⟨b, o + k * 10 + 2, none⟩ = some (.int .i64 d.x.sg) ∧ w'.cell? ⟨b, o + k * 10 + 3, none⟩ = some (.int .i64 d.x.hb) ∧ w'.cell? ⟨b, o + k * 10 + 4, none⟩ = some (.int .i64 d.x.sb) ∧ w'.cell? ⟨b, o + k * 10 + 5, none⟩ = some (.int .i64 d.x.hn) ∧ w'.cell? ⟨b, o + k * 10 + 6, none⟩ = some (.int .i64 d.x.sn) ∧ w'.cell? ⟨b, o + k * 10 + 7, none⟩ = some (.int .i64 d.x.gr) ∧ w'.cell? ⟨b, o + k * 10 + 8, none⟩ = some (.int .i64 d.x.bu) ∧ w'.cell? ⟨b, o + k * 10 + 9, none⟩ = some (.slice XA d.segs.length xc) ∧ w'.cell? ⟨b2, o2 + k * 10, none⟩ = some (.int .i64 d.st) ∧ w'.cell? ⟨b2, o2 + k * 10 + 1, none⟩ = some (.int .i64 d.gn) ∧ w'.cell? ⟨b2, o2 + k * 10 + 2, none⟩ = some (.int .i64 d.x.sg) ∧ w'.cell? ⟨b2, o2 + k * 10 + 3, none⟩ = some (.int .i64 d.x.hb) ∧ w'.cell? ⟨b2, o2 + k * 10 + 4, none⟩ = some (.int .i64 d.x.sb) ∧ w'.cell? ⟨b2, o2 + k * 10 + 5, none⟩ = some (.int .i64 d.x.hn) ∧ w'.cell? ⟨b2, o2 + k * 10 + 6, none⟩ = some (.int .i64 d.x.sn) ∧ w'.cell? ⟨b2, o2 + k * 10 + 7, none⟩ = some (.int .i64 d.x.gr) ∧ w'.cell? ⟨b2, o2 + k * 10 + 8, none⟩ = some (.int .i64 d.x.bu) ∧ w'.cell? ⟨b2, o2 + k * 10 + 9, none⟩ = some (.slice YA d.segs.length yc)) (exact ⟨a0, a1, a2, a3, a4, a5, a6, a7, a8, a9, d0, d1, d2, d3, d4, d5, d6, d7, d8, d9⟩)
        ((go_at_call 110; refine (samelimit_any d.x _).mono ?_; rintro e w1 ⟨rfl, hb⟩; have na0 := (hb.cell (p := ⟨b, o + k * 10, none⟩) (Nat.lt_of_lt_of_le hbw HB.out.size)).trans a0; have na1 := (hb.cell (p := ⟨b, o + k * 10 + 1, none⟩) (Nat.lt_of_lt_of_le hbw HB.out.size)).trans a1; have na2 := (hb.cell (p := ⟨b, o + k * 10 + 2, none⟩) (Nat.lt_of_lt_of_le hbw HB.out.size)).trans a2; have na3 := (hb.cell (p := ⟨b, o + k * 10 + 3, none⟩) (Nat.lt_of_lt_of_le hbw HB.out.size)).trans a3; have na4 := (hb.cell (p := ⟨b, o + k * 10 + 4, none⟩) (Nat.lt_of_lt_of_le hbw HB.out.size)).trans a4; have na5 := (hb.cell (p := ⟨b, o + k * 10 + 5, none⟩) (Nat.lt_of_lt_of_le hbw HB.out.size)).trans a5; have na6 := (hb.cell (p := ⟨b, o + k * 10 + 6, none⟩) (Nat.lt_of_lt_of_le hbw HB.out.size)).trans a6; have na7 := (hb.cell (p := ⟨b, o + k * 10 + 7, none⟩) (Nat.lt_of_lt_of_le hbw HB.out.size)).trans a7; have na8 := (hb.cell (p := ⟨b, o + k * 10 + 8, none⟩) (Nat.lt_of_lt_of_le hbw HB.out.size)).trans a8; have na9 := (hb.cell (p := ⟨b, o + k * 10 + 9, none⟩) (Nat.lt_of_lt_of_le hbw HB.out.size)).trans a9; have nd0 := (hb.cell (p := ⟨b2, o2 + k * 10, none⟩) (Nat.lt_of_lt_of_le hbw2 HB.out.size)).trans d0; have nd1 := (hb.cell (p := ⟨b2, o2 + k * 10 + 1, none⟩) (Nat.lt_of_lt_of_le hbw2 HB.out.size)).trans d1; have nd2 := (hb.cell (p := ⟨b2, o2 + k * 10 + 2, none⟩) (Nat.lt_of_lt_of_le hbw2 HB.out.size)).trans d2; have nd3 := (hb.cell (p := ⟨b2, o2 + k * 10 + 3, none⟩) (Nat.lt_of_lt_of_le hbw2 HB.out.size)).trans d3; have nd4 := (hb.cell (p := ⟨b2, o2 + k * 10 + 4, none⟩) (Nat.lt_of_lt_of_le hbw2 HB.out.size)).trans d4; have nd5 := (hb.cell (p := ⟨b2, o2 + k * 10 + 5, none⟩) (Nat.lt_of_lt_of_le hbw2 HB.out.size)).trans d5; have nd6 := (hb.cell (p := ⟨b2, o2 + k * 10 + 6, none⟩) (Nat.lt_of_lt_of_le hbw2 HB.out.size)).trans d6; have nd7 := (hb.cell (p := ⟨b2, o2 + k * 10 + 7, none⟩) (Nat.lt_of_lt_of_le hbw2 HB.out.size)).trans d7; have nd8 := (hb.cell (p := ⟨b2, o2 + k * 10 + 8, none⟩) (Nat.lt_of_lt_of_le hbw2 HB.out.size)).trans d8; have nd9 := (hb.cell (p := ⟨b2, o2 + k * 10 + 9, none⟩) (Nat.lt_of_lt_of_le hbw2 HB.out.size)).trans d9; clear a0 a1 a2 a3 a4 a5 a6 a7 a8 a9 d0 d1 d2 d3 d4 d5 d6 d7 d8 d9; have a0 := na0; clear na0; have a1 := na1; clear na1; have a2 := na2; clear na2; have a3 := na3; clear na3; have a4 := na4; clear na4; have a5 := na5; clear na5; have a6 := na6; clear na6; have a7 := na7; clear na7; have a8 := na8; clear na8; have a9 := na9; clear na9; have d0 := nd0; clear nd0; have d1 := nd1; clear nd1; have d2 := nd2; clear nd2; have d3 := nd3; clear nd3; have d4 := nd4; clear nd4; have d5 := nd5; clear nd5; have d6 := nd6; clear nd6; have d7 := nd7; clear nd7; have d8 := nd8; clear nd8; have d9 := nd9; clear nd9; have HB' := Lib.hid (HB.out.trans (by first | exact hb.mono HB.out.size | exact (below_of_drew hb).mono HB.out.size)); clear HB hb; have HB := HB'; clear HB'))
      clear a0 a1 a2 a3 a4 a5 a6 a7 a8 a9 d0 d1 d2 d3 d4 d5 d6 d7 d8 d9
      have HA9 : Hid (∀ W, Below wk.heap.size wk W → W.cell? ⟨b, o + k * 10 + 9, none⟩ = some (.slice XA d.segs.length xc) ∧ W.cell? ⟨b2, o2 + k * 10 + 9, none⟩ = some (.slice YA d.segs.length yc)) := fun W h => ⟨(h.cell (p := ⟨b, o + k * 10 + 9, none⟩) hbw).trans A9.out, (h.cell (p := ⟨b2, o2 + k * 10 + 9, none⟩) hbw2).trans D9.out⟩
      clear A9 D9
      go_wp2
      go_loopw [6] (fun jj wi => ∃ m : Nat, m ≤ d.segs.length ∧ jj = .int .i64 m ∧ Below wk.heap.size wk wi) (fun jj _ => d.segs.length - (intOf jj).toNat)
      case atStart => exact ⟨0, by omega, rfl, by first | exact HB.out | exact HB.out.drew⟩
      clear HB
      case round =>
        obtain ⟨m, hm, rfl, hb⟩ := hrel
        have HB := Lib.hid hb
        have h9 := HA9.out _ hb
        clear hb
        have hsl := HSL.out
        by_cases hml : m < d.segs.length
        · obtain ⟨b3, o3, c3, hv, hbw3, e0⟩ := EI_at (HRI.out.below HB.out) m hml
          obtain ⟨b4, o4, c4, hv2, hbw4, f0⟩ := EI_at (HRJ.out.below HB.out) m hml
          simp only [Value.slice.injEq] at hv hv2
          obtain ⟨rfl, -, rfl⟩ := hv
          obtain ⟨rfl, -, rfl⟩ := hv2
          generalize nthI d.segs m = y at *
          have j0 : (0 : Int) ≤ (m : Int) := by omega
          have j1 : (m : Int) < (d.segs.length : Int) := by omega
          obtain ⟨h91, h92⟩ := h9
          go_wp2
          go_quiet (fail)
          go_wp2
          go_roundw
          case rel => exact ⟨m + 1, by omega, by go_num, below_drewN HB.out _⟩
          case measure => simp only [intOf]; omega
        · obtain ⟨h91, h92⟩ := h9
          go_wp2
          go_roundw
          case rel => exact ⟨k + 1, by omega, by go_num, HBK.out.trans (HB.out.mono HBK.out.size)⟩
          case measure => simp only [intOf]; omega
    · go_wp2
      go_ret
      exact ⟨rfl, HBK.out⟩
end
end Go.Proofs.Ytjoplgdcpihmaaa
