/- The law HeadAll: its walk. -/
import Derived.Test.YtjoplgdcpihmaaaHeadR
import Derived.Deep.RegionHeld3
import Derived.Deep.DrawnRows
namespace Go.Proofs.Ytjoplgdcpihmaaa
open Go.RowKit
theorem few8_val (h : Hd) (v : Value) (l : List Ent) (body : List UInt8) (r : Bool) (w : World) (hr : EE.Reads w v l) (hc : few8B l body = r) :
    Calls Try.prog 25 #[.agg #[.int .i64 h.house, .int .i64 h.gen, .int .i64 h.life, .int .i64 h.seq, .int .i64 h.next, .int .i64 h.clock, .int .i64 h.sb, .int .i64 h.sn, v], .string (bs body)] w fun e w' => e = .returned (.bool r) ∧ Below w.heap.size w w' := hc ▸ few8_any h v l body w hr
theorem few8_le {l : List Ent} {body : List UInt8} (h : few8B l body = true) : l.length ≤ 40 ∧ body.length ≤ 7680 := by
  unfold few8B at h; simpa using h
/-! ### the reference's Get, whole -/
section
attribute [local go_sem] bs_size bs_extract
attribute [local go_sem ↓] Go.wp_at_zero Go.wp_at_succ
set_option maxRecDepth 100000 in
set_option maxHeartbeats 1000000 in
theorem ref8Get_short (s : List UInt8) (w : World) (hs : s.length < 256) :
    Calls Try.prog 31 #[.string (bs s)] w fun e w' => e = .returned (.tuple #[.agg #[.int .i64 0, .int .i64 0, .int .i64 0, .int .i64 0, .int .i64 0, .int .i64 0, .int .i64 0, .int .i64 0, .slice none 0 0], .int .i64 0, .bool false]) ∧ Below w.heap.size w w' := by
  go_enter Try.func31, Try.ntmps31
  go_wp2
  refine bodyPost_ret (v := .tuple #[.agg #[.int .i64 0, .int .i64 0, .int .i64 0, .int .i64 0, .int .i64 0, .int .i64 0, .int .i64 0, .int .i64 0, .slice none 0 0], .int .i64 0, .bool false]) (by simp [results, Try.results31, go_sem]) rfl ⟨rfl, ?_⟩
  exact (Below.refl _ _).alloc (Nat.le_refl _) _
end
theorem ref8Get_none (s : List UInt8) (w : World) (hs : s.length ≤ 140737488351232) (hg : getHead s = none) :
    Calls Try.prog 31 #[.string (bs s)] w fun e w' => e = .returned (.tuple #[.agg #[.int .i64 0, .int .i64 0, .int .i64 0, .int .i64 0, .int .i64 0, .int .i64 0, .int .i64 0, .int .i64 0, .slice none 0 0], .int .i64 0, .bool false]) ∧ Below w.heap.size w w' := by
  by_cases h : s.length < 256
  · exact ref8Get_short s w h
  · refine (ref8Get_long s w (by omega) hs).mono ?_
    rintro e w' ⟨hb, ⟨-, rfl⟩ | ⟨h', l', n', v, h1, -, -⟩⟩
    · exact ⟨rfl, hb⟩
    · rw [refGet_eq, hg] at h1; cases h1
theorem ref8Get_some (s : List UInt8) (h : Hd) (l : List Ent) (n : Int) (w : World) (hs : s.length ≤ 140737488351232) (hg : getHead s = some (h, l, n)) :
    Calls Try.prog 31 #[.string (bs s)] w fun e w' => Below w.heap.size w w' ∧ ∃ A c, EE.Own w' w.heap.size (.slice A l.length c) l ∧ e = .returned (.tuple #[.agg #[.int .i64 h.house, .int .i64 h.gen, .int .i64 h.life, .int .i64 h.seq, .int .i64 h.next, .int .i64 h.clock, .int .i64 h.sb, .int .i64 h.sn, .slice A l.length c], .int .i64 n, .bool true]) := by
  by_cases h : s.length < 256
  · rw [getHead_short h] at hg; cases hg
  · refine (ref8Get_long s w (by omega) hs).mono ?_
    rintro e w' ⟨hb, ⟨h1, -⟩ | ⟨h', l', n', v, h1, h2, h3⟩⟩
    · rw [refGet_eq, hg] at h1; cases h1
    · rw [refGet_eq, hg] at h1
      simp only [Option.some.injEq, Prod.mk.injEq] at h1
      obtain ⟨rfl, rfl, rfl⟩ := h1
      obtain ⟨A, c, rfl, _⟩ := h2.reads
      exact ⟨hb, A, c, h2, h3⟩
theorem headGet_none (s : List UInt8) (w : World) (hs : s.length ≤ 140737488351232) (hg : getHead s = none) :
    Calls Try.prog 30 #[.string (bs s)] w fun e w' => e = .returned (.tuple #[.agg #[.int .i64 0, .int .i64 0, .int .i64 0, .int .i64 0, .int .i64 0, .int .i64 0, .int .i64 0, .int .i64 0, .slice none 0 0], .int .i64 0, .bool false]) ∧ Below w.heap.size w w' := by
  refine (headGet_any s w hs).mono ?_
  rintro e w' ⟨hb, ⟨-, rfl⟩ | ⟨h', l', n', v, h1, -, -⟩⟩
  · exact ⟨rfl, hb⟩
  · rw [hg] at h1; cases h1
def hdZ8 : Hd := ⟨0, 0, 0, 0, 0, 0, 0, 0⟩
theorem getHead_len {s : List UInt8} {h : Hd} {l : List Ent} {n : Int} (hg : getHead s = some (h, l, n)) : l.length ≤ 24 := by
  unfold getHead at hg
  split at hg
  · cases hg
  · split at hg
    · rename_i h1
      simp only [Option.some.injEq, Prod.mk.injEq] at hg
      obtain ⟨-, rfl, -⟩ := hg
      exact checkB_len h1.1
    · cases hg
theorem headPut_val (h : Hd) (v : Value) (l : List Ent) (body x : List UInt8) (y : Bool) (w : World) (hr : EE.Reads w v l) (hl : l.length * 24 ≤ 140737488351232) (hs : body.length ≤ 140737488351232) (hx : (headPut h l body).getD [] = x) (hy : (headPut h l body).isSome = y) :
    Calls Try.prog 27 #[.agg #[.int .i64 h.house, .int .i64 h.gen, .int .i64 h.life, .int .i64 h.seq, .int .i64 h.next, .int .i64 h.clock, .int .i64 h.sb, .int .i64 h.sn, v], .string (bs body)] w
      fun e w' => e = .returned (.tuple #[.string (bs x), .bool y]) ∧ Below w.heap.size w w' := by subst hx hy; exact headPut_any h v l body w hr hl hs
theorem refheadPut_val (h : Hd) (v : Value) (l : List Ent) (body x : List UInt8) (y : Bool) (w : World) (hr : EE.Reads w v l) (hl : l.length * 24 ≤ 140737488351232) (hs : body.length ≤ 140737488000000) (hx : (headPut h l body).getD [] = x) (hy : (headPut h l body).isSome = y) :
    Calls Try.prog 29 #[.agg #[.int .i64 h.house, .int .i64 h.gen, .int .i64 h.life, .int .i64 h.seq, .int .i64 h.next, .int .i64 h.clock, .int .i64 h.sb, .int .i64 h.sn, v], .string (bs body)] w
      fun e w' => e = .returned (.tuple #[.string (bs x), .bool y]) ∧ Below w.heap.size w w' := by subst hx hy; exact refheadPut_any h v l body w hr hl hs
theorem sum_val (b body : List UInt8) (x : Int) (w : World) (hb : b.length ≤ 140737488351232) (hs : body.length ≤ 140737488351232) (hx : sumOf b body = x) :
    Calls Try.prog 35 #[.string (bs b), .string (bs body)] w fun e w' => e = .returned (.int .i64 x) ∧ Below w.heap.size w w' := hx ▸ sum_any b body w hb hs
theorem refsum_val (b body : List UInt8) (x : Int) (w : World) (hb : b.length ≤ 140737488351232) (hs : body.length ≤ 140737488000000) (hx : sumOf b body = x) :
    Calls Try.prog 36 #[.string (bs b), .string (bs body)] w fun e w' => e = .returned (.int .i64 x) ∧ w = w' := hx ▸ refsum_any b body w hb hs
section
attribute [local go_sem] bs_size
attribute [local go_sem ↓] Go.wp_at_zero Go.wp_at_succ
set_option maxRecDepth 100000 in
set_option maxHeartbeats 4000000 in
theorem headAll_walk (h : Hd) (v : Value) (l : List Ent) (body s : List UInt8) (w : World) (hr : EE.Reads w v l) (hn : ∀ c, v = .slice none 0 c → c = 0) :
    Calls Try.prog 3 #[.agg #[.int .i64 h.house, .int .i64 h.gen, .int .i64 h.life, .int .i64 h.seq, .int .i64 h.next, .int .i64 h.clock, .int .i64 h.sb, .int .i64 h.sn, v], .string (bs body), .string (bs s)] w fun e w' => e = .returned (.bool true) ∧ Below w.heap.size w w' := by
  have hr' := hr
  obtain ⟨A, c, rfl, hc, -⟩ := hr'
  have HN := Lib.hid hn
  have HB00 := Lib.hid ((Below.refl w.heap.size w).alloc (Nat.le_refl _) (.cells #[.int .i64 h.house, .int .i64 h.gen, .int .i64 h.life, .int .i64 h.seq, .int .i64 h.next, .int .i64 h.clock, .int .i64 h.sb, .int .i64 h.sn, .slice A l.length c] 24))
  have HR := Lib.hid (hr.below HB00.out)
  have K3 := Lib.hid (fun j => cell_of_row _ _ j _ _ _ (heap_alloc_new w (.cells #[.int .i64 h.house, .int .i64 h.gen, .int .i64 h.life, .int .i64 h.seq, .int .i64 h.next, .int .i64 h.clock, .int .i64 h.sb, .int .i64 h.sn, .slice A l.length c] 24)))
  have HB := Lib.hid (Below.refl (w.alloc (.cells #[.int .i64 h.house, .int .i64 h.gen, .int .i64 h.life, .int .i64 h.seq, .int .i64 h.next, .int .i64 h.clock, .int .i64 h.sb, .int .i64 h.sn, .slice A l.length c] 24)).heap.size (w.alloc (.cells #[.int .i64 h.house, .int .i64 h.gen, .int .i64 h.life, .int .i64 h.seq, .int .i64 h.next, .int .i64 h.clock, .int .i64 h.sb, .int .i64 h.sn, .slice A l.length c] 24)))
  have K0 : Hid (w.heap.size < (w.alloc (.cells #[.int .i64 h.house, .int .i64 h.gen, .int .i64 h.life, .int .i64 h.seq, .int .i64 h.next, .int .i64 h.clock, .int .i64 h.sb, .int .i64 h.sn, .slice A l.length c] 24)).heap.size) := by unfold Hid; simp
  clear hr hn
  have c3 : True := trivial
  cases hf : few8B l body with
  | false =>
    have HF := Lib.hid hf
    clear hf
    go_enter Try.func3, Try.ntmps3
    go_wp2_with fail
    refine (few8_val h _ l body false _ HR.out HF.out).mono ?_
    rintro e w1 ⟨rfl, hb⟩
    have HB' := Lib.hid (HB.out.trans (hb.mono HB.out.size)); clear HB hb c3; have HB := HB'; clear HB'; have c3 : ∀ j : Nat, w1.cell? ⟨w.heap.size, j, none⟩ = _ := fun j => (HB.out.cell (p := ⟨w.heap.size, j, none⟩) K0.out).trans (K3.out j)
    go_wp2_with fail
    refine (awake8_any _).mono ?_
    rintro e w2 ⟨rfl, hb⟩
    have HB' := Lib.hid (HB.out.trans (hb.mono HB.out.size)); clear HB hb c3; have HB := HB'; clear HB'; have c3 : ∀ j : Nat, w2.cell? ⟨w.heap.size, j, none⟩ = _ := fun j => (HB.out.cell (p := ⟨w.heap.size, j, none⟩) K0.out).trans (K3.out j)
    go_wp2
    go_ret
    exact ⟨rfl, HB00.out.trans (HB.out.mono HB00.out.size)⟩
  | true =>
    have hle := few8_le hf
    have HF := Lib.hid hf
    clear hf
    by_cases h3 : (3000 : Int) < (s.length : Int)
    · go_enter Try.func3, Try.ntmps3
      go_wp2_with fail
      refine (few8_val h _ l body true _ HR.out HF.out).mono ?_
      rintro e w1 ⟨rfl, hb⟩
      have HB' := Lib.hid (HB.out.trans (hb.mono HB.out.size)); clear HB hb c3; have HB := HB'; clear HB'; have c3 : ∀ j : Nat, w1.cell? ⟨w.heap.size, j, none⟩ = _ := fun j => (HB.out.cell (p := ⟨w.heap.size, j, none⟩) K0.out).trans (K3.out j)
      go_wp2_with fail
      refine (awake8_any _).mono ?_
      rintro e w2 ⟨rfl, hb⟩
      have HB' := Lib.hid (HB.out.trans (hb.mono HB.out.size)); clear HB hb c3; have HB := HB'; clear HB'; have c3 : ∀ j : Nat, w2.cell? ⟨w.heap.size, j, none⟩ = _ := fun j => (HB.out.cell (p := ⟨w.heap.size, j, none⟩) K0.out).trans (K3.out j)
      go_wp2
      go_ret
      exact ⟨rfl, HB00.out.trans (HB.out.mono HB00.out.size)⟩
    · cases hg : getHead s with
      | none =>
        have HG := Lib.hid hg
        clear hg
        have hs3 : s.length ≤ 3000 := by omega
        generalize hx : (headPut h l body).getD [] = x at *
        generalize hy : (headPut h l body).isSome = y at *
        generalize hz : sumOf s body = z at *
        generalize hcb : checkB h l = cb at *
        have HX := Lib.hid hx
        have HY := Lib.hid hy
        have HZ := Lib.hid hz
        have HCB := Lib.hid hcb
        clear hx hy hz hcb
        have L1 : Hid (l.length * 24 ≤ 140737488351232) := by unfold Hid; omega
        have L2 : Hid (body.length ≤ 140737488000000) := by unfold Hid; omega
        have L3 : Hid (body.length ≤ 140737488351232) := by unfold Hid; omega
        have L4 : Hid (s.length ≤ 140737488351232) := by unfold Hid; omega
        have L5 : Hid (l.length ≤ 1000) := by unfold Hid; omega
        go_enter Try.func3, Try.ntmps3
        go_wp2_with fail
        refine (few8_val h _ l body true _ HR.out HF.out).mono ?_
        rintro e w1 ⟨rfl, hb⟩
        have HB' := Lib.hid (HB.out.trans (hb.mono HB.out.size)); clear HB hb c3; have HB := HB'; clear HB'; have c3 : ∀ j : Nat, w1.cell? ⟨w.heap.size, j, none⟩ = _ := fun j => (HB.out.cell (p := ⟨w.heap.size, j, none⟩) K0.out).trans (K3.out j)
        go_wp2_with fail
        refine (copied8_any h _ l _ (HR.out.below HB.out) HN.out L5.out).mono ?_
        rintro e w2 ⟨hb, A2, c2, ho, rfl⟩
        have HB' := Lib.hid (HB.out.trans (hb.mono HB.out.size)); clear HB hb c3; have HB := HB'; clear HB'; have c3 : ∀ j : Nat, w2.cell? ⟨w.heap.size, j, none⟩ = _ := fun j => (HB.out.cell (p := ⟨w.heap.size, j, none⟩) K0.out).trans (K3.out j)
        have HO := Lib.hid ho.reads
        clear ho
        go_wp2_with fail
        refine (headPut_val h _ l body x y _ HO.out L1.out L3.out HX.out HY.out).mono ?_
        rintro e w3 ⟨rfl, hb⟩
        clear HO
        have HB' := Lib.hid (HB.out.trans (hb.mono HB.out.size)); clear HB hb c3; have HB := HB'; clear HB'; have c3 : ∀ j : Nat, w3.cell? ⟨w.heap.size, j, none⟩ = _ := fun j => (HB.out.cell (p := ⟨w.heap.size, j, none⟩) K0.out).trans (K3.out j)
        go_wp2_with fail
        refine (refheadPut_val h _ l body x y _ (HR.out.below HB.out) L1.out L2.out HX.out HY.out).mono ?_
        rintro e w4 ⟨rfl, hb⟩
        have HB' := Lib.hid (HB.out.trans (hb.mono HB.out.size)); clear HB hb c3; have HB := HB'; clear HB'; have c3 : ∀ j : Nat, w4.cell? ⟨w.heap.size, j, none⟩ = _ := fun j => (HB.out.cell (p := ⟨w.heap.size, j, none⟩) K0.out).trans (K3.out j)
        go_wp2_with fail
        refine (headGet_none s _ L4.out HG.out).mono ?_
        rintro e w5 ⟨rfl, hb⟩
        have HB' := Lib.hid (HB.out.trans (hb.mono HB.out.size)); clear HB hb c3; have HB := HB'; clear HB'; have c3 : ∀ j : Nat, w5.cell? ⟨w.heap.size, j, none⟩ = _ := fun j => (HB.out.cell (p := ⟨w.heap.size, j, none⟩) K0.out).trans (K3.out j)
        have HBA := Lib.hid (HB.out.alloc HB.out.size (.cells #[.int .i64 0, .int .i64 0, .int .i64 0, .int .i64 0, .int .i64 0, .int .i64 0, .int .i64 0, .int .i64 0, .slice none 0 0] 24))
        have K11 := Lib.hid (fun j => cell_of_row _ _ j _ _ _ (heap_alloc_new w5 (.cells #[.int .i64 0, .int .i64 0, .int .i64 0, .int .i64 0, .int .i64 0, .int .i64 0, .int .i64 0, .int .i64 0, .slice none 0 0] 24)))
        have K11s : Hid (w5.heap.size < (w5.alloc (.cells #[.int .i64 0, .int .i64 0, .int .i64 0, .int .i64 0, .int .i64 0, .int .i64 0, .int .i64 0, .int .i64 0, .slice none 0 0] 24)).heap.size) := by unfold Hid; simp
        go_wp2_with fail
        refine (ref8Get_none s _ L4.out HG.out).mono ?_
        rintro e w6 ⟨rfl, hb⟩
        have HB6 := Lib.hid ((HBA.out.trans (hb.mono HBA.out.size)).alloc ((HBA.out.trans (hb.mono HBA.out.size)).size) (.cells #[.int .i64 0, .int .i64 0, .int .i64 0, .int .i64 0, .int .i64 0, .int .i64 0, .int .i64 0, .int .i64 0, .slice none 0 0] 24))
        have HC6 := Lib.hid (hb.alloc hb.size (.cells #[.int .i64 0, .int .i64 0, .int .i64 0, .int .i64 0, .int .i64 0, .int .i64 0, .int .i64 0, .int .i64 0, .slice none 0 0] 24))
        have K14 := Lib.hid (fun j => cell_of_row _ _ j _ _ _ (heap_alloc_new w6 (.cells #[.int .i64 0, .int .i64 0, .int .i64 0, .int .i64 0, .int .i64 0, .int .i64 0, .int .i64 0, .int .i64 0, .slice none 0 0] 24)))
        have K14s : Hid (w6.heap.size < (w6.alloc (.cells #[.int .i64 0, .int .i64 0, .int .i64 0, .int .i64 0, .int .i64 0, .int .i64 0, .int .i64 0, .int .i64 0, .slice none 0 0] 24)).heap.size) := by unfold Hid; simp
        clear hb c3 HB HBA
        go_wp2_with fail
        generalize w6.alloc (.cells #[.int .i64 0, .int .i64 0, .int .i64 0, .int .i64 0, .int .i64 0, .int .i64 0, .int .i64 0, .int .i64 0, .slice none 0 0] 24) = W7 at *
        have e3 : ∀ j : Nat, W7.cell? ⟨w.heap.size, j, none⟩ = _ := fun j => (HB6.out.cell (p := ⟨w.heap.size, j, none⟩) K0.out).trans (K3.out j)
        have e11 : ∀ j : Nat, W7.cell? ⟨w5.heap.size, j, none⟩ = _ := fun j => (HC6.out.cell (p := ⟨w5.heap.size, j, none⟩) K11s.out).trans (K11.out j)
        have e14 : ∀ j : Nat, W7.cell? ⟨w6.heap.size, j, none⟩ = _ := K14.out
        have s3 : w.heap.size < W7.heap.size := Nat.lt_of_lt_of_le K0.out HB6.out.size
        have s11 : w5.heap.size < W7.heap.size := Nat.lt_of_lt_of_le K11s.out HC6.out.size
        have s14 : w6.heap.size < W7.heap.size := K14s.out
        have E3 := Lib.hid e3
        have E11 := Lib.hid e11
        have E14 := Lib.hid e14
        have S3 := Lib.hid s3
        have S11 := Lib.hid s11
        have S14 := Lib.hid s14
        have HR7 := Lib.hid (HR.out.below HB6.out)
        have HQ5 := Lib.hid (El.Reads.nil (E := EE) W7)
        have HQ6 := Lib.hid (El.Reads.nil (E := EE) W7)
        have L7 : Hid (([] : List Ent).length ≤ 100000) := by unfold Hid; decide
        have HB := Lib.hid (Below.refl W7.heap.size W7).drew
        have HO : True := trivial
        go_region_held3 (fun w' => (∀ j : Nat, w'.cell? ⟨w.heap.size, j, none⟩ = (#[.int .i64 h.house, .int .i64 h.gen, .int .i64 h.life, .int .i64 h.seq, .int .i64 h.next, .int .i64 h.clock, .int .i64 h.sb, .int .i64 h.sn, .slice A l.length c] : Array Value)[j]?) ∧ (∀ j : Nat, w'.cell? ⟨w5.heap.size, j, none⟩ = (#[.int .i64 0, .int .i64 0, .int .i64 0, .int .i64 0, .int .i64 0, .int .i64 0, .int .i64 0, .int .i64 0, .slice none 0 0] : Array Value)[j]?) ∧ (∀ j : Nat, w'.cell? ⟨w6.heap.size, j, none⟩ = (#[.int .i64 0, .int .i64 0, .int .i64 0, .int .i64 0, .int .i64 0, .int .i64 0, .int .i64 0, .int .i64 0, .slice none 0 0] : Array Value)[j]?)) (exact ⟨e3, e11, e14⟩)
          ((first | (go_at_call 28; refine (copied8_any h _ l _ (HR7.out.below HB.out) HN.out L5.out).mono ?_; rintro e v1 ⟨hb, A3, c3', ho, rfl⟩; have HB' := Lib.hid (HB.out.trans (hb.mono HB.out.size)); clear HB hb e3 e11 e14 s3 s11 s14; have HB := HB'; clear HB'; have e3 : ∀ j : Nat, v1.cell? ⟨w.heap.size, j, none⟩ = _ := fun j => (HB.out.cell (p := ⟨w.heap.size, j, none⟩) S3.out).trans (E3.out j); have e11 : ∀ j : Nat, v1.cell? ⟨w5.heap.size, j, none⟩ = _ := fun j => (HB.out.cell (p := ⟨w5.heap.size, j, none⟩) S11.out).trans (E11.out j); have e14 : ∀ j : Nat, v1.cell? ⟨w6.heap.size, j, none⟩ = _ := fun j => (HB.out.cell (p := ⟨w6.heap.size, j, none⟩) S14.out).trans (E14.out j); have s3 : w.heap.size < v1.heap.size := Nat.lt_of_lt_of_le S3.out HB.out.size; have s11 : w5.heap.size < v1.heap.size := Nat.lt_of_lt_of_le S11.out HB.out.size; have s14 : w6.heap.size < v1.heap.size := Nat.lt_of_lt_of_le S14.out HB.out.size; clear HO; have HO := Lib.hid ho.reads; clear ho) | (go_at_call 32; refine (check_val h _ l cb _ HO.out L1.out HCB.out).mono ?_; rintro e v1 ⟨rfl, hb⟩; have HB' := Lib.hid (HB.out.trans (hb.mono HB.out.size)); clear HB hb e3 e11 e14 s3 s11 s14; have HB := HB'; clear HB'; have e3 : ∀ j : Nat, v1.cell? ⟨w.heap.size, j, none⟩ = _ := fun j => (HB.out.cell (p := ⟨w.heap.size, j, none⟩) S3.out).trans (E3.out j); have e11 : ∀ j : Nat, v1.cell? ⟨w5.heap.size, j, none⟩ = _ := fun j => (HB.out.cell (p := ⟨w5.heap.size, j, none⟩) S11.out).trans (E11.out j); have e14 : ∀ j : Nat, v1.cell? ⟨w6.heap.size, j, none⟩ = _ := fun j => (HB.out.cell (p := ⟨w6.heap.size, j, none⟩) S14.out).trans (E14.out j); have s3 : w.heap.size < v1.heap.size := Nat.lt_of_lt_of_le S3.out HB.out.size; have s11 : w5.heap.size < v1.heap.size := Nat.lt_of_lt_of_le S11.out HB.out.size; have s14 : w6.heap.size < v1.heap.size := Nat.lt_of_lt_of_le S14.out HB.out.size) | (go_at_call 33; refine (refcheck_val h _ l cb _ (HR7.out.below HB.out) L1.out HCB.out).mono ?_; rintro e v1 ⟨rfl, hb⟩; have HB' := Lib.hid (HB.out.trans (hb.mono HB.out.size)); clear HB hb e3 e11 e14 s3 s11 s14; have HB := HB'; clear HB'; have e3 : ∀ j : Nat, v1.cell? ⟨w.heap.size, j, none⟩ = _ := fun j => (HB.out.cell (p := ⟨w.heap.size, j, none⟩) S3.out).trans (E3.out j); have e11 : ∀ j : Nat, v1.cell? ⟨w5.heap.size, j, none⟩ = _ := fun j => (HB.out.cell (p := ⟨w5.heap.size, j, none⟩) S11.out).trans (E11.out j); have e14 : ∀ j : Nat, v1.cell? ⟨w6.heap.size, j, none⟩ = _ := fun j => (HB.out.cell (p := ⟨w6.heap.size, j, none⟩) S14.out).trans (E14.out j); have s3 : w.heap.size < v1.heap.size := Nat.lt_of_lt_of_le S3.out HB.out.size; have s11 : w5.heap.size < v1.heap.size := Nat.lt_of_lt_of_le S11.out HB.out.size; have s14 : w6.heap.size < v1.heap.size := Nat.lt_of_lt_of_le S14.out HB.out.size) | (go_at_call 34; refine (same_any hdZ8 _ _ [] _ (HQ5.out.below HB.out) (HQ6.out.below HB.out) L7.out).mono ?_; rintro e v1 ⟨rfl, hb⟩; have HB' := Lib.hid (HB.out.trans (hb.mono HB.out.size)); clear HB hb e3 e11 e14 s3 s11 s14; have HB := HB'; clear HB'; have e3 : ∀ j : Nat, v1.cell? ⟨w.heap.size, j, none⟩ = _ := fun j => (HB.out.cell (p := ⟨w.heap.size, j, none⟩) S3.out).trans (E3.out j); have e11 : ∀ j : Nat, v1.cell? ⟨w5.heap.size, j, none⟩ = _ := fun j => (HB.out.cell (p := ⟨w5.heap.size, j, none⟩) S11.out).trans (E11.out j); have e14 : ∀ j : Nat, v1.cell? ⟨w6.heap.size, j, none⟩ = _ := fun j => (HB.out.cell (p := ⟨w6.heap.size, j, none⟩) S14.out).trans (E14.out j); have s3 : w.heap.size < v1.heap.size := Nat.lt_of_lt_of_le S3.out HB.out.size; have s11 : w5.heap.size < v1.heap.size := Nat.lt_of_lt_of_le S11.out HB.out.size; have s14 : w6.heap.size < v1.heap.size := Nat.lt_of_lt_of_le S14.out HB.out.size) | (go_at_call 35; refine (sum_val s body z _ L4.out L3.out HZ.out).mono ?_; rintro e v1 ⟨rfl, hb⟩; have HB' := Lib.hid (HB.out.trans (hb.mono HB.out.size)); clear HB hb e3 e11 e14 s3 s11 s14; have HB := HB'; clear HB'; have e3 : ∀ j : Nat, v1.cell? ⟨w.heap.size, j, none⟩ = _ := fun j => (HB.out.cell (p := ⟨w.heap.size, j, none⟩) S3.out).trans (E3.out j); have e11 : ∀ j : Nat, v1.cell? ⟨w5.heap.size, j, none⟩ = _ := fun j => (HB.out.cell (p := ⟨w5.heap.size, j, none⟩) S11.out).trans (E11.out j); have e14 : ∀ j : Nat, v1.cell? ⟨w6.heap.size, j, none⟩ = _ := fun j => (HB.out.cell (p := ⟨w6.heap.size, j, none⟩) S14.out).trans (E14.out j); have s3 : w.heap.size < v1.heap.size := Nat.lt_of_lt_of_le S3.out HB.out.size; have s11 : w5.heap.size < v1.heap.size := Nat.lt_of_lt_of_le S11.out HB.out.size; have s14 : w6.heap.size < v1.heap.size := Nat.lt_of_lt_of_le S14.out HB.out.size) | (go_at_call 36; refine (refsum_val s body z _ L4.out L2.out HZ.out).mono ?_; rintro e v1 ⟨rfl, rfl⟩) | (go_at_call 26; refine (awake8_any _).mono ?_; rintro e v1 ⟨rfl, hb⟩; have HB' := Lib.hid (HB.out.trans (hb.mono HB.out.size)); clear HB hb e3 e11 e14 s3 s11 s14; have HB := HB'; clear HB'; have e3 : ∀ j : Nat, v1.cell? ⟨w.heap.size, j, none⟩ = _ := fun j => (HB.out.cell (p := ⟨w.heap.size, j, none⟩) S3.out).trans (E3.out j); have e11 : ∀ j : Nat, v1.cell? ⟨w5.heap.size, j, none⟩ = _ := fun j => (HB.out.cell (p := ⟨w5.heap.size, j, none⟩) S11.out).trans (E11.out j); have e14 : ∀ j : Nat, v1.cell? ⟨w6.heap.size, j, none⟩ = _ := fun j => (HB.out.cell (p := ⟨w6.heap.size, j, none⟩) S14.out).trans (E14.out j); have s3 : w.heap.size < v1.heap.size := Nat.lt_of_lt_of_le S3.out HB.out.size; have s11 : w5.heap.size < v1.heap.size := Nat.lt_of_lt_of_le S11.out HB.out.size; have s14 : w6.heap.size < v1.heap.size := Nat.lt_of_lt_of_le S14.out HB.out.size)))
        go_wp2_with fail
        go_ret
        exact ⟨rfl, HB00.out.trans ((HB6.out.trans (HB.out.mono HB6.out.size)).mono HB00.out.size)⟩
      | some r =>
        obtain ⟨hh, l5, n5⟩ := r
        have HG := Lib.hid hg
        clear hg
        have hs3 : s.length ≤ 3000 := by omega
        generalize hx : (headPut h l body).getD [] = x at *
        generalize hy : (headPut h l body).isSome = y at *
        generalize hz : sumOf s body = z at *
        generalize hcb : checkB h l = cb at *
        have HX := Lib.hid hx
        have HY := Lib.hid hy
        have HZ := Lib.hid hz
        have HCB := Lib.hid hcb
        clear hx hy hz hcb
        have L1 : Hid (l.length * 24 ≤ 140737488351232) := by unfold Hid; omega
        have L2 : Hid (body.length ≤ 140737488000000) := by unfold Hid; omega
        have L3 : Hid (body.length ≤ 140737488351232) := by unfold Hid; omega
        have L4 : Hid (s.length ≤ 140737488351232) := by unfold Hid; omega
        have L5 : Hid (l.length ≤ 1000) := by unfold Hid; omega
        go_enter Try.func3, Try.ntmps3
        go_wp2_with fail
        refine (few8_val h _ l body true _ HR.out HF.out).mono ?_
        rintro e w1 ⟨rfl, hb⟩
        have HB' := Lib.hid (HB.out.trans (hb.mono HB.out.size)); clear HB hb c3; have HB := HB'; clear HB'; have c3 : ∀ j : Nat, w1.cell? ⟨w.heap.size, j, none⟩ = _ := fun j => (HB.out.cell (p := ⟨w.heap.size, j, none⟩) K0.out).trans (K3.out j)
        go_wp2_with fail
        refine (copied8_any h _ l _ (HR.out.below HB.out) HN.out L5.out).mono ?_
        rintro e w2 ⟨hb, A2, c2, ho, rfl⟩
        have HB' := Lib.hid (HB.out.trans (hb.mono HB.out.size)); clear HB hb c3; have HB := HB'; clear HB'; have c3 : ∀ j : Nat, w2.cell? ⟨w.heap.size, j, none⟩ = _ := fun j => (HB.out.cell (p := ⟨w.heap.size, j, none⟩) K0.out).trans (K3.out j)
        have HO := Lib.hid ho.reads
        clear ho
        go_wp2_with fail
        refine (headPut_val h _ l body x y _ HO.out L1.out L3.out HX.out HY.out).mono ?_
        rintro e w3 ⟨rfl, hb⟩
        clear HO
        have HB' := Lib.hid (HB.out.trans (hb.mono HB.out.size)); clear HB hb c3; have HB := HB'; clear HB'; have c3 : ∀ j : Nat, w3.cell? ⟨w.heap.size, j, none⟩ = _ := fun j => (HB.out.cell (p := ⟨w.heap.size, j, none⟩) K0.out).trans (K3.out j)
        go_wp2_with fail
        refine (refheadPut_val h _ l body x y _ (HR.out.below HB.out) L1.out L2.out HX.out HY.out).mono ?_
        rintro e w4 ⟨rfl, hb⟩
        have HB' := Lib.hid (HB.out.trans (hb.mono HB.out.size)); clear HB hb c3; have HB := HB'; clear HB'; have c3 : ∀ j : Nat, w4.cell? ⟨w.heap.size, j, none⟩ = _ := fun j => (HB.out.cell (p := ⟨w.heap.size, j, none⟩) K0.out).trans (K3.out j)
        go_wp2_with fail
        refine (headGet_some s hh l5 n5 _ L4.out HG.out).mono ?_
        rintro e w5 ⟨hb, A5, c5, ho5, rfl⟩
        have HB' := Lib.hid (HB.out.trans (hb.mono HB.out.size)); clear HB hb c3; have HB := HB'; clear HB'; have c3 : ∀ j : Nat, w5.cell? ⟨w.heap.size, j, none⟩ = _ := fun j => (HB.out.cell (p := ⟨w.heap.size, j, none⟩) K0.out).trans (K3.out j)
        have HO5 := Lib.hid (ho5.reads.below ((Below.refl w5.heap.size w5).alloc (Nat.le_refl _) (.cells #[.int .i64 hh.house, .int .i64 hh.gen, .int .i64 hh.life, .int .i64 hh.seq, .int .i64 hh.next, .int .i64 hh.clock, .int .i64 hh.sb, .int .i64 hh.sn, .slice A5 l5.length c5] 24)))
        clear ho5
        have HBA := Lib.hid (HB.out.alloc HB.out.size (.cells #[.int .i64 hh.house, .int .i64 hh.gen, .int .i64 hh.life, .int .i64 hh.seq, .int .i64 hh.next, .int .i64 hh.clock, .int .i64 hh.sb, .int .i64 hh.sn, .slice A5 l5.length c5] 24))
        have K11 := Lib.hid (fun j => cell_of_row _ _ j _ _ _ (heap_alloc_new w5 (.cells #[.int .i64 hh.house, .int .i64 hh.gen, .int .i64 hh.life, .int .i64 hh.seq, .int .i64 hh.next, .int .i64 hh.clock, .int .i64 hh.sb, .int .i64 hh.sn, .slice A5 l5.length c5] 24)))
        have K11s : Hid (w5.heap.size < (w5.alloc (.cells #[.int .i64 hh.house, .int .i64 hh.gen, .int .i64 hh.life, .int .i64 hh.seq, .int .i64 hh.next, .int .i64 hh.clock, .int .i64 hh.sb, .int .i64 hh.sn, .slice A5 l5.length c5] 24)).heap.size) := by unfold Hid; simp
        go_wp2_with fail
        refine (ref8Get_some s hh l5 n5 _ L4.out HG.out).mono ?_
        rintro e w6 ⟨hb, A6, c6, ho6, rfl⟩
        have HB6 := Lib.hid ((HBA.out.trans (hb.mono HBA.out.size)).alloc ((HBA.out.trans (hb.mono HBA.out.size)).size) (.cells #[.int .i64 hh.house, .int .i64 hh.gen, .int .i64 hh.life, .int .i64 hh.seq, .int .i64 hh.next, .int .i64 hh.clock, .int .i64 hh.sb, .int .i64 hh.sn, .slice A6 l5.length c6] 24))
        have HC6 := Lib.hid (hb.alloc hb.size (.cells #[.int .i64 hh.house, .int .i64 hh.gen, .int .i64 hh.life, .int .i64 hh.seq, .int .i64 hh.next, .int .i64 hh.clock, .int .i64 hh.sb, .int .i64 hh.sn, .slice A6 l5.length c6] 24))
        have K14 := Lib.hid (fun j => cell_of_row _ _ j _ _ _ (heap_alloc_new w6 (.cells #[.int .i64 hh.house, .int .i64 hh.gen, .int .i64 hh.life, .int .i64 hh.seq, .int .i64 hh.next, .int .i64 hh.clock, .int .i64 hh.sb, .int .i64 hh.sn, .slice A6 l5.length c6] 24)))
        have K14s : Hid (w6.heap.size < (w6.alloc (.cells #[.int .i64 hh.house, .int .i64 hh.gen, .int .i64 hh.life, .int .i64 hh.seq, .int .i64 hh.next, .int .i64 hh.clock, .int .i64 hh.sb, .int .i64 hh.sn, .slice A6 l5.length c6] 24)).heap.size) := by unfold Hid; simp
        have HO6 := Lib.hid (ho6.reads.below ((Below.refl w6.heap.size w6).alloc (Nat.le_refl _) (.cells #[.int .i64 hh.house, .int .i64 hh.gen, .int .i64 hh.life, .int .i64 hh.seq, .int .i64 hh.next, .int .i64 hh.clock, .int .i64 hh.sb, .int .i64 hh.sn, .slice A6 l5.length c6] 24)))
        have HO5' := Lib.hid (HO5.out.below HC6.out)
        clear ho6
        clear hb c3 HB HBA
        go_wp2_with fail
        generalize w6.alloc (.cells #[.int .i64 hh.house, .int .i64 hh.gen, .int .i64 hh.life, .int .i64 hh.seq, .int .i64 hh.next, .int .i64 hh.clock, .int .i64 hh.sb, .int .i64 hh.sn, .slice A6 l5.length c6] 24) = W7 at *
        have e3 : ∀ j : Nat, W7.cell? ⟨w.heap.size, j, none⟩ = _ := fun j => (HB6.out.cell (p := ⟨w.heap.size, j, none⟩) K0.out).trans (K3.out j)
        have e11 : ∀ j : Nat, W7.cell? ⟨w5.heap.size, j, none⟩ = _ := fun j => (HC6.out.cell (p := ⟨w5.heap.size, j, none⟩) K11s.out).trans (K11.out j)
        have e14 : ∀ j : Nat, W7.cell? ⟨w6.heap.size, j, none⟩ = _ := K14.out
        have s3 : w.heap.size < W7.heap.size := Nat.lt_of_lt_of_le K0.out HB6.out.size
        have s11 : w5.heap.size < W7.heap.size := Nat.lt_of_lt_of_le K11s.out HC6.out.size
        have s14 : w6.heap.size < W7.heap.size := K14s.out
        have E3 := Lib.hid e3
        have E11 := Lib.hid e11
        have E14 := Lib.hid e14
        have S3 := Lib.hid s3
        have S11 := Lib.hid s11
        have S14 := Lib.hid s14
        have HR7 := Lib.hid (HR.out.below HB6.out)
        have HQ5 := HO5'
        have HQ6 := HO6
        have L7 : Hid (l5.length ≤ 100000) := by unfold Hid; have := getHead_len HG.out; omega
        have HB := Lib.hid (Below.refl W7.heap.size W7).drew
        have HO : True := trivial
        go_region_held3 (fun w' => (∀ j : Nat, w'.cell? ⟨w.heap.size, j, none⟩ = (#[.int .i64 h.house, .int .i64 h.gen, .int .i64 h.life, .int .i64 h.seq, .int .i64 h.next, .int .i64 h.clock, .int .i64 h.sb, .int .i64 h.sn, .slice A l.length c] : Array Value)[j]?) ∧ (∀ j : Nat, w'.cell? ⟨w5.heap.size, j, none⟩ = (#[.int .i64 hh.house, .int .i64 hh.gen, .int .i64 hh.life, .int .i64 hh.seq, .int .i64 hh.next, .int .i64 hh.clock, .int .i64 hh.sb, .int .i64 hh.sn, .slice A5 l5.length c5] : Array Value)[j]?) ∧ (∀ j : Nat, w'.cell? ⟨w6.heap.size, j, none⟩ = (#[.int .i64 hh.house, .int .i64 hh.gen, .int .i64 hh.life, .int .i64 hh.seq, .int .i64 hh.next, .int .i64 hh.clock, .int .i64 hh.sb, .int .i64 hh.sn, .slice A6 l5.length c6] : Array Value)[j]?)) (exact ⟨e3, e11, e14⟩)
          ((first | (go_at_call 28; refine (copied8_any h _ l _ (HR7.out.below HB.out) HN.out L5.out).mono ?_; rintro e v1 ⟨hb, A3, c3', ho, rfl⟩; have HB' := Lib.hid (HB.out.trans (hb.mono HB.out.size)); clear HB hb e3 e11 e14 s3 s11 s14; have HB := HB'; clear HB'; have e3 : ∀ j : Nat, v1.cell? ⟨w.heap.size, j, none⟩ = _ := fun j => (HB.out.cell (p := ⟨w.heap.size, j, none⟩) S3.out).trans (E3.out j); have e11 : ∀ j : Nat, v1.cell? ⟨w5.heap.size, j, none⟩ = _ := fun j => (HB.out.cell (p := ⟨w5.heap.size, j, none⟩) S11.out).trans (E11.out j); have e14 : ∀ j : Nat, v1.cell? ⟨w6.heap.size, j, none⟩ = _ := fun j => (HB.out.cell (p := ⟨w6.heap.size, j, none⟩) S14.out).trans (E14.out j); have s3 : w.heap.size < v1.heap.size := Nat.lt_of_lt_of_le S3.out HB.out.size; have s11 : w5.heap.size < v1.heap.size := Nat.lt_of_lt_of_le S11.out HB.out.size; have s14 : w6.heap.size < v1.heap.size := Nat.lt_of_lt_of_le S14.out HB.out.size; clear HO; have HO := Lib.hid ho.reads; clear ho) | (go_at_call 32; refine (check_val h _ l cb _ HO.out L1.out HCB.out).mono ?_; rintro e v1 ⟨rfl, hb⟩; have HB' := Lib.hid (HB.out.trans (hb.mono HB.out.size)); clear HB hb e3 e11 e14 s3 s11 s14; have HB := HB'; clear HB'; have e3 : ∀ j : Nat, v1.cell? ⟨w.heap.size, j, none⟩ = _ := fun j => (HB.out.cell (p := ⟨w.heap.size, j, none⟩) S3.out).trans (E3.out j); have e11 : ∀ j : Nat, v1.cell? ⟨w5.heap.size, j, none⟩ = _ := fun j => (HB.out.cell (p := ⟨w5.heap.size, j, none⟩) S11.out).trans (E11.out j); have e14 : ∀ j : Nat, v1.cell? ⟨w6.heap.size, j, none⟩ = _ := fun j => (HB.out.cell (p := ⟨w6.heap.size, j, none⟩) S14.out).trans (E14.out j); have s3 : w.heap.size < v1.heap.size := Nat.lt_of_lt_of_le S3.out HB.out.size; have s11 : w5.heap.size < v1.heap.size := Nat.lt_of_lt_of_le S11.out HB.out.size; have s14 : w6.heap.size < v1.heap.size := Nat.lt_of_lt_of_le S14.out HB.out.size) | (go_at_call 33; refine (refcheck_val h _ l cb _ (HR7.out.below HB.out) L1.out HCB.out).mono ?_; rintro e v1 ⟨rfl, hb⟩; have HB' := Lib.hid (HB.out.trans (hb.mono HB.out.size)); clear HB hb e3 e11 e14 s3 s11 s14; have HB := HB'; clear HB'; have e3 : ∀ j : Nat, v1.cell? ⟨w.heap.size, j, none⟩ = _ := fun j => (HB.out.cell (p := ⟨w.heap.size, j, none⟩) S3.out).trans (E3.out j); have e11 : ∀ j : Nat, v1.cell? ⟨w5.heap.size, j, none⟩ = _ := fun j => (HB.out.cell (p := ⟨w5.heap.size, j, none⟩) S11.out).trans (E11.out j); have e14 : ∀ j : Nat, v1.cell? ⟨w6.heap.size, j, none⟩ = _ := fun j => (HB.out.cell (p := ⟨w6.heap.size, j, none⟩) S14.out).trans (E14.out j); have s3 : w.heap.size < v1.heap.size := Nat.lt_of_lt_of_le S3.out HB.out.size; have s11 : w5.heap.size < v1.heap.size := Nat.lt_of_lt_of_le S11.out HB.out.size; have s14 : w6.heap.size < v1.heap.size := Nat.lt_of_lt_of_le S14.out HB.out.size) | (go_at_call 34; refine (same_any hh _ _ l5 _ (HQ5.out.below HB.out) (HQ6.out.below HB.out) L7.out).mono ?_; rintro e v1 ⟨rfl, hb⟩; have HB' := Lib.hid (HB.out.trans (hb.mono HB.out.size)); clear HB hb e3 e11 e14 s3 s11 s14; have HB := HB'; clear HB'; have e3 : ∀ j : Nat, v1.cell? ⟨w.heap.size, j, none⟩ = _ := fun j => (HB.out.cell (p := ⟨w.heap.size, j, none⟩) S3.out).trans (E3.out j); have e11 : ∀ j : Nat, v1.cell? ⟨w5.heap.size, j, none⟩ = _ := fun j => (HB.out.cell (p := ⟨w5.heap.size, j, none⟩) S11.out).trans (E11.out j); have e14 : ∀ j : Nat, v1.cell? ⟨w6.heap.size, j, none⟩ = _ := fun j => (HB.out.cell (p := ⟨w6.heap.size, j, none⟩) S14.out).trans (E14.out j); have s3 : w.heap.size < v1.heap.size := Nat.lt_of_lt_of_le S3.out HB.out.size; have s11 : w5.heap.size < v1.heap.size := Nat.lt_of_lt_of_le S11.out HB.out.size; have s14 : w6.heap.size < v1.heap.size := Nat.lt_of_lt_of_le S14.out HB.out.size) | (go_at_call 35; refine (sum_val s body z _ L4.out L3.out HZ.out).mono ?_; rintro e v1 ⟨rfl, hb⟩; have HB' := Lib.hid (HB.out.trans (hb.mono HB.out.size)); clear HB hb e3 e11 e14 s3 s11 s14; have HB := HB'; clear HB'; have e3 : ∀ j : Nat, v1.cell? ⟨w.heap.size, j, none⟩ = _ := fun j => (HB.out.cell (p := ⟨w.heap.size, j, none⟩) S3.out).trans (E3.out j); have e11 : ∀ j : Nat, v1.cell? ⟨w5.heap.size, j, none⟩ = _ := fun j => (HB.out.cell (p := ⟨w5.heap.size, j, none⟩) S11.out).trans (E11.out j); have e14 : ∀ j : Nat, v1.cell? ⟨w6.heap.size, j, none⟩ = _ := fun j => (HB.out.cell (p := ⟨w6.heap.size, j, none⟩) S14.out).trans (E14.out j); have s3 : w.heap.size < v1.heap.size := Nat.lt_of_lt_of_le S3.out HB.out.size; have s11 : w5.heap.size < v1.heap.size := Nat.lt_of_lt_of_le S11.out HB.out.size; have s14 : w6.heap.size < v1.heap.size := Nat.lt_of_lt_of_le S14.out HB.out.size) | (go_at_call 36; refine (refsum_val s body z _ L4.out L2.out HZ.out).mono ?_; rintro e v1 ⟨rfl, rfl⟩) | (go_at_call 26; refine (awake8_any _).mono ?_; rintro e v1 ⟨rfl, hb⟩; have HB' := Lib.hid (HB.out.trans (hb.mono HB.out.size)); clear HB hb e3 e11 e14 s3 s11 s14; have HB := HB'; clear HB'; have e3 : ∀ j : Nat, v1.cell? ⟨w.heap.size, j, none⟩ = _ := fun j => (HB.out.cell (p := ⟨w.heap.size, j, none⟩) S3.out).trans (E3.out j); have e11 : ∀ j : Nat, v1.cell? ⟨w5.heap.size, j, none⟩ = _ := fun j => (HB.out.cell (p := ⟨w5.heap.size, j, none⟩) S11.out).trans (E11.out j); have e14 : ∀ j : Nat, v1.cell? ⟨w6.heap.size, j, none⟩ = _ := fun j => (HB.out.cell (p := ⟨w6.heap.size, j, none⟩) S14.out).trans (E14.out j); have s3 : w.heap.size < v1.heap.size := Nat.lt_of_lt_of_le S3.out HB.out.size; have s11 : w5.heap.size < v1.heap.size := Nat.lt_of_lt_of_le S11.out HB.out.size; have s14 : w6.heap.size < v1.heap.size := Nat.lt_of_lt_of_le S14.out HB.out.size)))
        go_wp2_with fail
        go_ret
        exact ⟨rfl, HB00.out.trans ((HB6.out.trans (HB.out.mono HB6.out.size)).mono HB00.out.size)⟩
end
end Go.Proofs.Ytjoplgdcpihmaaa
