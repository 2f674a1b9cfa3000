/- The law TableApart: its walk. -/
import Derived.Test.YtjoplgdcpihmaaaLimA
import Derived.Test.YtjoplgdcpihmaaaHS2
import Derived.Test.YtjoplgdcpihmaaaTabP
namespace Go.Proofs.Ytjoplgdcpihmaaa
open Go.RowKit
theorem limOf_five : limOf 5 = lim5 := rfl
theorem limit_five (w : World) : Calls Try.prog 52 #[.int .i64 5] w fun e w' => e = .returned (.agg #[.int .i64 9, .int .i64 7, .int .i64 7, .int .i64 4, .int .i64 2, .int .i64 0, .int .i64 0]) ∧ Below w.heap.size w w' := by
  have h := limit_any 5 w (by decide) (by decide)
  rw [limOf_five] at h
  exact h
/-- The houses under way: one of them with its first segments. -/
def apL (k m : Nat) (A : Option Addr) (c : Nat) : List HM := (List.replicate 16 ⟨hd0, none, 0⟩).set k ⟨⟨1, 1, lim5, segs9 m⟩, A, c⟩
theorem apL_len (k m : Nat) (A : Option Addr) (c : Nat) : (apL k m A c).length = 16 := by simp [apL]
theorem apL_at {k : Nat} (hk : k < 16) (m : Nat) (A : Option Addr) (c : Nat) : (apL k m A c)[k]? = some ⟨⟨1, 1, lim5, segs9 m⟩, A, c⟩ := by
  unfold apL; rw [List.getElem?_set_self (by simpa using hk)]
theorem apL_set (k m : Nat) (A : Option Addr) (c : Nat) (y : HM) : (apL k m A c).set k y = (List.replicate 16 ⟨hd0, none, 0⟩).set k y := by unfold apL; rw [List.set_set]
theorem apL_map (k : Nat) (y : HM) : ((List.replicate 16 (⟨hd0, none, 0⟩ : HM)).set k y).map (·.d) = (List.replicate 16 hd0).set k y.d := by rw [List.map_set, List.map_replicate]
theorem segs9_succ (m : Nat) : segs9 (m + 1) = segs9 m ++ [2 * (m : Int)] := by unfold segs9; rw [List.range_succ, List.map_append]; rfl
theorem segs9_len (m : Nat) : (segs9 m).length = m := by simp [segs9]
theorem apSet_short (k : Nat) (y : HM) (hy : y.d.segs.length ≤ 9) : ∀ h ∈ (List.replicate 16 (⟨hd0, none, 0⟩ : HM)).set k y, h.d.segs.length ≤ 140737488351232 := fun h hh => by
  rcases List.mem_or_eq_of_mem_set hh with hm | rfl
  · obtain ⟨-, rfl⟩ := List.mem_replicate.1 hm
    exact Nat.zero_le _
  · omega
theorem EH_at {W : World} {base lb c : Nat} {l : List HM} (h : EH.Own W base (.slice (some ⟨lb, 0, none⟩) l.length c) l) (i : Nat) (x : HM) (hi : l[i]? = some x) (j : Nat) (u : Value) (hu : (EH.enc x)[j]? = some u) : W.cell? ⟨lb, i * 10 + j, none⟩ = some u ∧ W.frozen? ⟨lb, i * 10 + j, none⟩ = false := h.atAddr rfl i x hi j u hu
theorem apD_0 (n : Int) : apD 0 n = ⟨1, 1 + n, lim5, segs9 9⟩ := by simp [apD]
theorem apD_1 (n : Int) : apD 1 n = ⟨1, 1, ⟨9, 7, 7, 4, 2, n, 0⟩, segs9 9⟩ := by simp [apD]
theorem apD_2 (n : Int) : apD 2 n = ⟨1, 1, ⟨9, 7, 7, 4, 2, 0, n⟩, segs9 9⟩ := by simp [apD]
theorem apD_3 (n : Int) : apD 3 n = ⟨1, 1, ⟨9, 1000 + n, 7, 4, 2, 0, 0⟩, segs9 9⟩ := by simp [apD]
theorem apD_4 (n : Int) : apD 4 n = ⟨1, 1, lim5, (segs9 9).set 8 (500 + n)⟩ := by simp [apD]
theorem apD_5 (n : Int) : apD 5 n = ⟨1 + n % 2, 1, lim5, segs9 9⟩ := by simp [apD]
theorem apD_len {j : Int} (hj : 0 ≤ j ∧ j < 6) (n : Int) : (apD j n).segs.length = 9 := by
  have hj' : j = 0 ∨ j = 1 ∨ j = 2 ∨ j = 3 ∨ j = 4 ∨ j = 5 := by omega
  rcases hj' with rfl | rfl | rfl | rfl | rfl | rfl
  · rw [apD_0]; exact segs9_len 9
  · rw [apD_1]; exact segs9_len 9
  · rw [apD_2]; exact segs9_len 9
  · rw [apD_3]; exact segs9_len 9
  · rw [apD_4]; rw [List.length_set]; exact segs9_len 9
  · rw [apD_5]; exact segs9_len 9
def tC (tq : Nat → List UInt8) (q : Nat) : Array Value := #[.string (bs (if 0 < q then tq 0 else [])), .string (bs (if 1 < q then tq 1 else []))]
theorem tC_set (tq : Nat → List UInt8) (q : Nat) (hq : q < 2) : (tC tq q).setIfInBounds q (.string (bs (tq q))) = tC tq (q + 1) := by
  have hq' : q = 0 ∨ q = 1 := by omega
  rcases hq' with rfl | rfl <;> simp [tC, List.setIfInBounds_toArray, List.set_cons_zero, List.set_cons_succ]
theorem tC_cell (tq : Nat → List UInt8) (q : Nat) (hq : q < 2) : ∃ u, (tC tq q)[q]? = some u := by
  have hq' : q = 0 ∨ q = 1 := by omega
  rcases hq' with rfl | rfl
  · exact ⟨_, rfl⟩
  · exact ⟨_, rfl⟩
def limC : Array Value := #[.int .i64 9, .int .i64 7, .int .i64 7, .int .i64 4, .int .i64 2, .int .i64 0, .int .i64 0]
/-- The law's own blocks: the strings, the bounds, the houses. -/
structure ApSt (w W : World) (TC : Array Value) (L0 lb : Nat) (l : List HM) : Prop where
  bel : Below w.heap.size w W
  tt : W.heap[w.heap.size]? = some (.cells TC 63 (0, 0))
  ll : W.heap[L0]? = some (.cells limC 48 (0, 0))
  lo : w.heap.size < L0
  hs : HSt W (L0 + 1) (.slice (some ⟨lb, 0, none⟩) 16 16) l
  len : l.length = 16
namespace ApSt
variable {w W W' : World} {TC : Array Value} {L0 lb : Nat} {l l' : List HM}
theorem move (h : ApSt w W TC L0 lb l) {row : Option Nat} (hg : W.grownBy W' row) (hr : ∀ r, row = some r → L0 < r) (hs : HSt W' (L0 + 1) (.slice (some ⟨lb, 0, none⟩) 16 16) l') (len : l'.length = 16) : ApSt w W' TC L0 lb l' :=
  ⟨h.bel.grown hg h.bel.size (fun k e => by have := hr k e; have := h.lo; omega), (hg.block _ (lt_of_block h.tt) (fun e => by have := hr _ e.symm; have := h.lo; omega)).trans h.tt, (hg.block _ (lt_of_block h.ll) (fun e => by have := hr _ e.symm; omega)).trans h.ll, h.lo, hs, len⟩
theorem below (h : ApSt w W TC L0 lb l) (hb : Below W.heap.size W W') : ApSt w W' TC L0 lb l :=
  h.move (El.grown_of_below hb none) (fun r e => by cases e) (h.hs.below hb) h.len
theorem hs' (h : ApSt w W TC L0 lb l) : HSt W (L0 + 1) (.slice (some ⟨lb, 0, none⟩) l.length 16) l := by rw [h.len]; exact h.hs
theorem lbl (h : ApSt w W TC L0 lb l) : L0 + 1 ≤ lb := (h.hs.own.lt lb rfl).1
theorem field (h : ApSt w W TC L0 lb l) (i : Nat) (x : HM) (hi : l[i]? = some x) (k : Nat) (hk : k < 9) (u : Int) : ApSt w (W.setCell ⟨lb, i * 10 + k, none⟩ (.int .i64 u)) TC L0 lb (l.set i ⟨setF x.d k u, x.A, x.c⟩) :=
  h.move (grown_cell W ⟨lb, i * 10 + k, none⟩ (.int .i64 u)) (fun r e => by injection e with e; have := h.lbl; simp at e; omega) (by have := h.hs'.field i x hi k hk u; rwa [h.len] at this) (by rw [List.length_set]; exact h.len)
theorem cellAt (h : ApSt w W TC L0 lb l) (i : Nat) (x : HM) (hi : l[i]? = some x) (j : Nat) (u : Value) (hu : (EH.enc x)[j]? = some u) : W.cell? ⟨lb, i * 10 + j, none⟩ = some u ∧ W.frozen? ⟨lb, i * 10 + j, none⟩ = false := h.hs'.cellAt i x hi j u hu
theorem lim (h : ApSt w W TC L0 lb l) : ∀ j : Nat, W.cell? ⟨L0, j, none⟩ = limC[j]? := fun j => cell_of_row _ _ j _ _ _ h.ll
theorem segset (h : ApSt w W TC L0 lb l) (i : Nat) (x : HM) (hi : l[i]? = some x) (hg : W.grownBy W' (Value.slice x.A x.d.segs.length x.c).ownBlock)
    (A' : Option Addr) (c' : Nat) (S : List Int) (ho : EI.Own W' (L0 + 1) (.slice A' S.length c') S) (hat : (Value.slice A' S.length c').ownBlock = (Value.slice x.A x.d.segs.length x.c).ownBlock ∨ ∃ k, (Value.slice A' S.length c').ownBlock = some k ∧ W.heap.size ≤ k) :
    ApSt w (W'.setCell ⟨lb, i * 10 + 9, none⟩ (.slice A' S.length c')) TC L0 lb (l.set i ⟨⟨x.d.st, x.d.gn, x.d.x, S⟩, A', c'⟩) := by
  have hr : ∀ r, (Value.slice x.A x.d.segs.length x.c).ownBlock = some r → L0 < r := fun r e => ((h.hs.segs x (List.mem_of_getElem? hi)).lt r e).1
  have hs := h.hs'.segset i x hi hg rfl A' c' S ho hat
  have hl := h.lbl
  have h1 := h.lo
  have tt' := (hg.block _ (lt_of_block h.tt) (fun e => by have := hr _ e.symm; omega)).trans h.tt
  have ll' := (hg.block _ (lt_of_block h.ll) (fun e => by have := hr _ e.symm; omega)).trans h.ll
  exact ⟨(h.bel.grown hg h.bel.size (fun k e => by have := hr k e; omega)).setCell (by show _ ≤ lb; omega) _, by rw [Below.heap_setCell _ _ _ _ (by show _ ≠ lb; omega)]; exact tt', by rw [Below.heap_setCell _ _ _ _ (by show _ ≠ lb; omega)]; exact ll', h.lo, by rw [h.len] at hs; exact hs, by rw [List.length_set]; exact h.len⟩
theorem segstore (h : ApSt w W TC L0 lb l) (i : Nat) (x : HM) (hi : l[i]? = some x) (g : Nat) (hA : x.A = some ⟨g, 0, none⟩) (j : Nat) (hj : j < x.d.segs.length) (u : Int) :
    ApSt w (W.setCell ⟨g, j, none⟩ (.int .i64 u)) TC L0 lb (l.set i ⟨⟨x.d.st, x.d.gn, x.d.x, x.d.segs.set j u⟩, x.A, x.c⟩) :=
  h.move (grown_cell W ⟨g, j, none⟩ (.int .i64 u)) (fun r e => by
    have := h.hs.seg_block (List.mem_of_getElem? hi) hA
    injection e with e; simp only at e this; omega) (by have := h.hs'.segstore i x hi g hA j hj u; rwa [h.len] at this) (by rw [List.length_set]; exact h.len)
theorem put (h : ApSt w W TC L0 lb l) (i : Nat) (x y : HM) (hi : l[i]? = some x) (hy : y.d.segs = [] ∧ y.A = none ∧ y.c = 0) :
    ApSt w ((((((((((W.setCell ⟨lb, i * 10, none⟩ (.int .i64 y.d.st)).setCell ⟨lb, i * 10 + 1, none⟩ (.int .i64 y.d.gn)).setCell ⟨lb, i * 10 + 2, none⟩ (.int .i64 y.d.x.sg)).setCell ⟨lb, i * 10 + 3, none⟩ (.int .i64 y.d.x.hb)).setCell ⟨lb, i * 10 + 4, none⟩ (.int .i64 y.d.x.sb)).setCell ⟨lb, i * 10 + 5, none⟩ (.int .i64 y.d.x.hn)).setCell ⟨lb, i * 10 + 6, none⟩ (.int .i64 y.d.x.sn)).setCell ⟨lb, i * 10 + 7, none⟩ (.int .i64 y.d.x.gr)).setCell ⟨lb, i * 10 + 8, none⟩ (.int .i64 y.d.x.bu)).setCell ⟨lb, i * 10 + 9, none⟩ (.slice y.A y.d.segs.length y.c)) TC L0 lb (l.set i y) := by
  have hl := h.lbl
  have hG : W.grownBy ((((((((((W.setCell ⟨lb, i * 10, none⟩ (.int .i64 y.d.st)).setCell ⟨lb, i * 10 + 1, none⟩ (.int .i64 y.d.gn)).setCell ⟨lb, i * 10 + 2, none⟩ (.int .i64 y.d.x.sg)).setCell ⟨lb, i * 10 + 3, none⟩ (.int .i64 y.d.x.hb)).setCell ⟨lb, i * 10 + 4, none⟩ (.int .i64 y.d.x.sb)).setCell ⟨lb, i * 10 + 5, none⟩ (.int .i64 y.d.x.hn)).setCell ⟨lb, i * 10 + 6, none⟩ (.int .i64 y.d.x.sn)).setCell ⟨lb, i * 10 + 7, none⟩ (.int .i64 y.d.x.gr)).setCell ⟨lb, i * 10 + 8, none⟩ (.int .i64 y.d.x.bu)).setCell ⟨lb, i * 10 + 9, none⟩ (.slice y.A y.d.segs.length y.c)) (some lb) := grown_setc (grown_setc (grown_setc (grown_setc (grown_setc (grown_setc (grown_setc (grown_setc (grown_setc (grown_setc (grown_same _ _) _ _) _ _) _ _) _ _) _ _) _ _) _ _) _ _) _ _) _ _
  exact h.move hG (fun r e => by injection e with e; omega) (by have := h.hs'.put i x y hi hy; rwa [h.len] at this) (by rw [List.length_set]; exact h.len)
end ApSt
section
attribute [local go_sem ↓] Go.wp_at_zero Go.wp_at_succ
set_option maxRecDepth 100000 in
set_option maxHeartbeats 8000000 in
theorem tableApart_walk (how at_ v vw : Int) (w : World) (a0 : -9223372036854775808 ≤ how) (a1 : how ≤ 9223372036854775807) (b0 : -9223372036854775808 ≤ at_) (b1 : at_ ≤ 9223372036854775807) (c0 : -9223372036854775808 ≤ v) (c1 : v ≤ 9223372036854775807) (d0 : -9223372036854775808 ≤ vw) (d1 : vw ≤ 9223372036854775807) :
    Calls Try.prog 11 #[.int .i64 how, .int .i64 at_, .int .i64 v, .int .i64 vw] w fun e w' => e = .returned (.bool true) ∧ Below w.heap.size w w' := by
  have hj := placeOf_bd how 6 (by decide)
  have hk := placeOf_bd at_ 16 (by decide)
  have ha := placeOf_bd v 16 (by decide)
  have hb := placeOf_bd vw 16 (by decide)
  have PJ := Lib.hid (place_any how 6)
  have PK := Lib.hid (place_any at_ 16)
  have PA := Lib.hid (place_any v 16)
  have PB := Lib.hid (place_any vw 16)
  generalize placeOf how 6 = j at *
  generalize placeOf at_ 16 = ki at *
  generalize placeOf v 16 = na at *
  generalize placeOf vw 16 = nb at *
  obtain ⟨k, rfl⟩ := Int.eq_ofNat_of_zero_le hk.1
  have hk16 : k < 16 := by omega
  have NA := Lib.hid ha
  have NB := Lib.hid hb
  obtain ⟨ta, hta⟩ := put_yes (num := 7) (by decide) (one_ok (by decide) (apD_ok hj ha) k)
  obtain ⟨tb, htb⟩ := put_yes (num := 7) (by decide) (one_ok (by decide) (apD_ok hj hb) k)
  have HTA := Lib.hid hta
  have HTB := Lib.hid htb
  have HEQ := Lib.hid (apart_eq hk16 hj hta htb)
  clear hta htb ha hb
  obtain ⟨nq, hnq⟩ : ∃ nq : Nat → Int, nq 0 = na ∧ nq 1 = nb := ⟨fun q => if q = 0 then na else nb, rfl, rfl⟩
  obtain ⟨tq, htq⟩ : ∃ tq : Nat → List UInt8, tq 0 = ta ∧ tq 1 = tb := ⟨fun q => if q = 0 then ta else tb, rfl, rfl⟩
  have HN : Hid (∀ q, q < 2 → (0 ≤ nq q ∧ nq q < 16) ∧ tablePut 7 ((List.replicate 16 hd0).set k (apD j (nq q))) = some (tq q)) := by
    intro q hq
    have hq' : q = 0 ∨ q = 1 := by omega
    rcases hq' with rfl | rfl
    · rw [hnq.1, htq.1]; exact ⟨NA.out, HTA.out⟩
    · rw [hnq.2, htq.2]; exact ⟨NB.out, HTB.out⟩
  have HF := Lib.hid (Fr.one w #[.string ⟨#[]⟩, .string ⟨#[]⟩] 63)
  go_enter Try.func11, Try.ntmps11
  go_wp2_with fail
  refine (PA.out _ c0 c1 (by decide) (by decide)).mono ?_
  rintro e w1 ⟨rfl, rfl⟩
  go_wp2_with fail
  refine (PB.out _ d0 d1 (by decide) (by decide)).mono ?_
  rintro e w1 ⟨rfl, rfl⟩
  go_wp2_with fail
  refine (PK.out _ b0 b1 (by decide) (by decide)).mono ?_
  rintro e w1 ⟨rfl, rfl⟩
  go_wp2_with fail
  clear PA PB PK c0 c1 d0 d1 b0 b1 hk NA NB HTA HTB
  obtain ⟨rfl, rfl⟩ := hnq
  obtain ⟨rfl, rfl⟩ := htq
  have HB0 := Lib.hid HF.out.bel
  have HT0 : Hid ((w.alloc (.cells #[.string ⟨#[]⟩, .string ⟨#[]⟩] 63)).heap[w.heap.size]? = some (.cells #[.string ⟨#[]⟩, .string ⟨#[]⟩] 63 (0, 0))) := HF.out.block (i := 0) rfl rfl
  clear HF
  go_loopw [13] (fun i wr => ∃ q : Nat, q ≤ 2 ∧ i = .int .i64 q ∧ Below w.heap.size w wr ∧ wr.heap[w.heap.size]? = some (.cells (tC tq q) 63 (0, 0))) (fun i _ => 2 - (intOf i).toNat)
  case atStart => exact ⟨0, by omega, rfl, HB0.out, HT0.out⟩
  clear HB0 HT0
  case round =>
    obtain ⟨q, hq2, rfl, hb, ht⟩ := hrel
    obtain ⟨wq, rfl⟩ : ∃ wq, wq = wr := ⟨wr, rfl⟩
    have HB := Lib.hid hb
    have HT := Lib.hid ht
    clear hb ht
    by_cases hlt : q < 2
    · have HLT := Lib.hid hlt
      have HNQ := Lib.hid (HN.out q hlt)
      have hn := HNQ.out.1
      have hidx : ∀ W : World, (Instr.index 64 (.agg #[.int .i64 (nq 0), .int .i64 (nq 1)]) (.int .i64 (q : Int))).run Try.prog W = .ok (.int .i64 (nq q)) W := by
        have hq' : q = 0 ∨ q = 1 := by omega
        rcases hq' with rfl | rfl
        · exact fun _ => by kernel_rfl
        · exact fun _ => by kernel_rfl
      go_wp2_with fail
      refine (limit_five _).mono ?_
      rintro e w2 ⟨rfl, hb⟩
      have HB2 := Lib.hid (HB.out.trans (hb.mono HB.out.size))
      have HT2 : Hid (w2.heap[w.heap.size]? = _) := (hb.block _ (lt_of_block HT.out)).trans HT.out
      clear hb
      go_upto_region 9 with fail
      have hL0 : w.heap.size < w2.heap.size := lt_of_block HT2.out
      obtain ⟨C, hmk, hown⟩ := El.mk_row EH ⟨hd0, none, 0⟩ rfl 16 (by decide) (by decide) (w2.heap.size + 1) (w2.alloc (.cells limC 48)) (by simp)
      have hsz : (w2.alloc (.cells limC 48)).heap.size = w2.heap.size + 1 := by simp
      rw [hsz] at hmk hown
      have hmk' : (Instr.makeSlice 46 (.int .i64 16) (.int .i64 16)).run Try.prog (w2.alloc (.cells limC 48)) = .ok (.slice (some ⟨w2.heap.size + 1, 0, none⟩) 16 16) ((w2.alloc (.cells limC 48)).alloc (.cells C 61)) := hmk
      have hA : ApSt w ((w2.alloc (.cells limC 48)).alloc (.cells C 61)) (tC tq q) w2.heap.size (w2.heap.size + 1) (List.replicate 16 ⟨hd0, none, 0⟩) := by
        refine ⟨(HB2.out.alloc HB2.out.size _).alloc (HB2.out.alloc HB2.out.size _).size _, ?_, ?_, hL0, HSt.of_zeros hown, rfl⟩
        · rw [Below.heap_alloc _ _ _ (by simp; omega), Below.heap_alloc _ _ _ hL0]; exact HT2.out
        · rw [Below.heap_alloc _ _ _ (by simp)]; exact heap_alloc_new w2 _
      have HA := Lib.hid hA
      clear hmk hown hA HT2 HB2 HB HT hidx
      unfold limC at hmk'
      go_upto_region 10 with fail
      clear hmk'
      change Hid (ApSt _ ((w2.alloc (.cells #[.int .i64 9, .int .i64 7, .int .i64 7, .int .i64 4, .int .i64 2, .int .i64 0, .int .i64 0] 48)).alloc (.cells C 61)) _ _ (w2.heap.size + 1) _) at HA
      generalize (w2.alloc (.cells #[.int .i64 9, .int .i64 7, .int .i64 7, .int .i64 4, .int .i64 2, .int .i64 0, .int .i64 0] 48)).alloc (.cells C 61) = W4 at *
      generalize w2.heap.size = L0 at *
      have eL : ∀ j : Nat, W4.cell? ⟨L0, j, none⟩ = (#[.int .i64 9, .int .i64 7, .int .i64 7, .int .i64 4, .int .i64 2, .int .i64 0, .int .i64 0] : Array Value)[j]? := HA.out.lim
      have g0 := HA.out.cellAt k _ (by rw [List.getElem?_replicate, if_pos hk16]) 0 _ rfl
      have g1 := HA.out.cellAt k _ (by rw [List.getElem?_replicate, if_pos hk16]) 1 _ rfl
      have g2 := HA.out.cellAt k _ (by rw [List.getElem?_replicate, if_pos hk16]) 2 _ rfl
      have g3 := HA.out.cellAt k _ (by rw [List.getElem?_replicate, if_pos hk16]) 3 _ rfl
      have g4 := HA.out.cellAt k _ (by rw [List.getElem?_replicate, if_pos hk16]) 4 _ rfl
      have g5 := HA.out.cellAt k _ (by rw [List.getElem?_replicate, if_pos hk16]) 5 _ rfl
      have g6 := HA.out.cellAt k _ (by rw [List.getElem?_replicate, if_pos hk16]) 6 _ rfl
      have g7 := HA.out.cellAt k _ (by rw [List.getElem?_replicate, if_pos hk16]) 7 _ rfl
      have g8 := HA.out.cellAt k _ (by rw [List.getElem?_replicate, if_pos hk16]) 8 _ rfl
      have g9 := HA.out.cellAt k _ (by rw [List.getElem?_replicate, if_pos hk16]) 9 _ rfl
      simp only [Nat.add_zero] at g0
      go_upto_region 11 with fail
      have HA5 : Hid (ApSt w ((((((((((W4.setCell ⟨L0 + 1, k * 10, none⟩ (.int .i64 1)).setCell ⟨L0 + 1, k * 10 + 1, none⟩ (.int .i64 1)).setCell ⟨L0 + 1, k * 10 + 2, none⟩ (.int .i64 9)).setCell ⟨L0 + 1, k * 10 + 3, none⟩ (.int .i64 7)).setCell ⟨L0 + 1, k * 10 + 4, none⟩ (.int .i64 7)).setCell ⟨L0 + 1, k * 10 + 5, none⟩ (.int .i64 4)).setCell ⟨L0 + 1, k * 10 + 6, none⟩ (.int .i64 2)).setCell ⟨L0 + 1, k * 10 + 7, none⟩ (.int .i64 0)).setCell ⟨L0 + 1, k * 10 + 8, none⟩ (.int .i64 0)).setCell ⟨L0 + 1, k * 10 + 9, none⟩ (.slice none 0 0)) (tC tq q) L0 (L0 + 1) (apL k 0 none 0)) := HA.out.put k _ ⟨⟨1, 1, lim5, segs9 0⟩, none, 0⟩ (by rw [List.getElem?_replicate, if_pos hk16]) ⟨rfl, rfl, rfl⟩
      clear eL hsz HA g0 g1 g2 g3 g4 g5 g6 g7 g8 g9
      generalize ((((((((((W4.setCell ⟨L0 + 1, k * 10, none⟩ (.int .i64 1)).setCell ⟨L0 + 1, k * 10 + 1, none⟩ (.int .i64 1)).setCell ⟨L0 + 1, k * 10 + 2, none⟩ (.int .i64 9)).setCell ⟨L0 + 1, k * 10 + 3, none⟩ (.int .i64 7)).setCell ⟨L0 + 1, k * 10 + 4, none⟩ (.int .i64 7)).setCell ⟨L0 + 1, k * 10 + 5, none⟩ (.int .i64 4)).setCell ⟨L0 + 1, k * 10 + 6, none⟩ (.int .i64 2)).setCell ⟨L0 + 1, k * 10 + 7, none⟩ (.int .i64 0)).setCell ⟨L0 + 1, k * 10 + 8, none⟩ (.int .i64 0)).setCell ⟨L0 + 1, k * 10 + 9, none⟩ (.slice none 0 0)) = W5 at *
      go_wp2_with fail
      go_loopw [17] (fun i wi => ∃ (m : Nat) (A : Option Addr) (c : Nat), m ≤ 9 ∧ i = .int .i64 m ∧ ApSt w wi (tC tq q) L0 (L0 + 1) (apL k m A c)) (fun i _ => 9 - (intOf i).toNat)
      case atStart => exact ⟨0, none, 0, by omega, rfl, HA5.out⟩
      clear HA5
      case round =>
        obtain ⟨m, A, c, hm9, rfl, hA⟩ := hrel
        have HA := Lib.hid hA
        have eL : ∀ j : Nat, wr.cell? ⟨L0, j, none⟩ = (#[.int .i64 9, .int .i64 7, .int .i64 7, .int .i64 4, .int .i64 2, .int .i64 0, .int .i64 0] : Array Value)[j]? := hA.lim
        have hS := hA.hs.segs ⟨⟨1, 1, lim5, segs9 m⟩, A, c⟩ (List.mem_of_getElem? (apL_at hk16 m A c))
        have HS : Hid (EI.Own wr (L0 + 1) (.slice A (segs9 m).length c) (segs9 m)) := hS
        have g9 := hA.cellAt k _ (apL_at hk16 m A c) 9 _ rfl
        have hLB := hA.hs.own.lt (L0 + 1) rfl
        have HLB := Lib.hid hLB
        clear hA hS hLB
        by_cases hm : m < 9
        · have HM := Lib.hid hm
          have HSL : Hid ((segs9 m).length = m) := segs9_len m
          go_wp2_with (at_builtin; refine EI.app (w0 := wr) rfl _ _ rfl (L0 + 1) (.slice A (segs9 m).length c) (segs9 m) (2 * (m : Int)) rfl HS.out rfl _ rfl ?cb ?cm (Nat.le_of_lt HLB.out.2) (Below.refl _ _) ?_; (case cb => rw [HSL.out]; simp only [EI]; omega); (case cm => rw [HSL.out]; omega); intro v' w1 ho _ hg hat; obtain ⟨A', c', rfl, -⟩ := ho.reads; have g9' := EH_at (HA.out.hs'.own_after k _ (apL_at hk16 m A c) hg) k _ (apL_at hk16 m A c) 9 _ rfl; have HSG := Lib.hid (HA.out.segset k _ (apL_at hk16 m A c) hg A' c' (segs9 m ++ [2 * (m : Int)]) ho hat); clear ho hg hat)
          have hS : ApSt w (w1.setCell ⟨L0 + 1, k * 10 + 9, none⟩ (.slice A' ((segs9 m).length + 1) c')) (tC tq q) L0 (L0 + 1) (apL k (m + 1) A' c') := by
            have := HSG.out
            rw [apL_set, ← segs9_succ, segs9_len] at this
            rw [HSL.out]; exact this
          have HS' := Lib.hid hS
          clear hS g9'
          go_roundw
          case rel => exact ⟨m + 1, A', c', by omega, by go_num, HS'.out⟩
          case measure => simp only [intOf]; omega
        · obtain rfl : m = 9 := by omega
          clear hm hm9
          go_wp2_with fail
          refine (PJ.out _ a0 a1 (by decide) (by decide)).mono ?_
          rintro e w5 ⟨rfl, rfl⟩
          clear eL g9 hq2 PJ
          have hj' : j = 0 ∨ j = 1 ∨ j = 2 ∨ j = 3 ∨ j = 4 ∨ j = 5 := by omega
          clear hj a0 a1
          rcases hj' with rfl | rfl | rfl | rfl | rfl | rfl
          · have HJ : Hid ((0 : Int) ≤ 0 ∧ (0 : Int) < 6) := by unfold Hid; decide
            have g5 := HA.out.cellAt k _ (apL_at hk16 9 A c) 1 _ rfl
            clear HS
            go_upto_region 27 with fail
            have HA5 : Hid (ApSt w (wr.setCell ⟨L0 + 1, k * 10 + 1, none⟩ (.int .i64 (1 + nq q))) (tC tq q) L0 (L0 + 1) ((List.replicate 16 ⟨hd0, none, 0⟩).set k ⟨apD 0 (nq q), A, c⟩)) := by
              have h := HA.out.field k _ (apL_at hk16 9 A c) 1 (by decide) (1 + nq q)
              rw [apL_set] at h
              rw [apD_0]
              exact h
            generalize (wr.setCell ⟨L0 + 1, k * 10 + 1, none⟩ (.int .i64 (1 + nq q))) = W5 at *
            clear HA g5
            go_wp2_with fail
            refine (tput_val 7 _ _ _ HA5.out.hs.reads (by rw [HA5.out.len]; decide) (apSet_short k _ (by rw [apD_len HJ.out]; decide)) (some (tq q)) (by rw [apL_map]; exact HNQ.out.2)).mono ?_
            rintro e w6 ⟨rfl, hb⟩
            have HA6 := Lib.hid (HA5.out.below hb)
            clear hb HA5
            unfold putAns
            simp only [Option.getD_some, Option.isSome_some]
            obtain ⟨uq, huq⟩ := tC_cell tq q HLT.out
            have hcq : w6.cell? ⟨w.heap.size, q, none⟩ = some uq := (cell_of_row _ _ q _ _ _ HA6.out.tt).trans huq
            have hfq : w6.frozen? ⟨w.heap.size, q, none⟩ = false := free_of_row HA6.out.tt q
            clear huq
            go_wp2_with fail
            have HT7 : Hid ((w6.setCell ⟨w.heap.size, q, none⟩ (.string (bs (tq q)))).heap[w.heap.size]? = some (.cells (tC tq (q + 1)) 63 (0, 0))) := by
              have := heap_set HA6.out.tt q (.string (bs (tq q)))
              rw [tC_set tq q HLT.out] at this
              exact this
            have HB7 := Lib.hid (HA6.out.bel.setCell (p := ⟨w.heap.size, q, none⟩) (Nat.le_refl _) (.string (bs (tq q))))
            clear hcq hfq HA6
            go_roundw
            case rel => exact ⟨q + 1, by omega, by go_num, HB7.out, HT7.out⟩
            case measure => simp only [intOf]; omega
          · have HJ : Hid ((0 : Int) ≤ 1 ∧ (1 : Int) < 6) := by unfold Hid; decide
            have g5 := HA.out.cellAt k _ (apL_at hk16 9 A c) 7 _ rfl
            clear HS
            go_upto_region 27 with fail
            have HA5 : Hid (ApSt w (wr.setCell ⟨L0 + 1, k * 10 + 7, none⟩ (.int .i64 (nq q))) (tC tq q) L0 (L0 + 1) ((List.replicate 16 ⟨hd0, none, 0⟩).set k ⟨apD 1 (nq q), A, c⟩)) := by
              have h := HA.out.field k _ (apL_at hk16 9 A c) 7 (by decide) (nq q)
              rw [apL_set] at h
              rw [apD_1]
              exact h
            generalize (wr.setCell ⟨L0 + 1, k * 10 + 7, none⟩ (.int .i64 (nq q))) = W5 at *
            clear HA g5
            go_wp2_with fail
            refine (tput_val 7 _ _ _ HA5.out.hs.reads (by rw [HA5.out.len]; decide) (apSet_short k _ (by rw [apD_len HJ.out]; decide)) (some (tq q)) (by rw [apL_map]; exact HNQ.out.2)).mono ?_
            rintro e w6 ⟨rfl, hb⟩
            have HA6 := Lib.hid (HA5.out.below hb)
            clear hb HA5
            unfold putAns
            simp only [Option.getD_some, Option.isSome_some]
            obtain ⟨uq, huq⟩ := tC_cell tq q HLT.out
            have hcq : w6.cell? ⟨w.heap.size, q, none⟩ = some uq := (cell_of_row _ _ q _ _ _ HA6.out.tt).trans huq
            have hfq : w6.frozen? ⟨w.heap.size, q, none⟩ = false := free_of_row HA6.out.tt q
            clear huq
            go_wp2_with fail
            have HT7 : Hid ((w6.setCell ⟨w.heap.size, q, none⟩ (.string (bs (tq q)))).heap[w.heap.size]? = some (.cells (tC tq (q + 1)) 63 (0, 0))) := by
              have := heap_set HA6.out.tt q (.string (bs (tq q)))
              rw [tC_set tq q HLT.out] at this
              exact this
            have HB7 := Lib.hid (HA6.out.bel.setCell (p := ⟨w.heap.size, q, none⟩) (Nat.le_refl _) (.string (bs (tq q))))
            clear hcq hfq HA6
            go_roundw
            case rel => exact ⟨q + 1, by omega, by go_num, HB7.out, HT7.out⟩
            case measure => simp only [intOf]; omega
          · have HJ : Hid ((0 : Int) ≤ 2 ∧ (2 : Int) < 6) := by unfold Hid; decide
            have g5 := HA.out.cellAt k _ (apL_at hk16 9 A c) 8 _ rfl
            clear HS
            go_upto_region 27 with fail
            have HA5 : Hid (ApSt w (wr.setCell ⟨L0 + 1, k * 10 + 8, none⟩ (.int .i64 (nq q))) (tC tq q) L0 (L0 + 1) ((List.replicate 16 ⟨hd0, none, 0⟩).set k ⟨apD 2 (nq q), A, c⟩)) := by
              have h := HA.out.field k _ (apL_at hk16 9 A c) 8 (by decide) (nq q)
              rw [apL_set] at h
              rw [apD_2]
              exact h
            generalize (wr.setCell ⟨L0 + 1, k * 10 + 8, none⟩ (.int .i64 (nq q))) = W5 at *
            clear HA g5
            go_wp2_with fail
            refine (tput_val 7 _ _ _ HA5.out.hs.reads (by rw [HA5.out.len]; decide) (apSet_short k _ (by rw [apD_len HJ.out]; decide)) (some (tq q)) (by rw [apL_map]; exact HNQ.out.2)).mono ?_
            rintro e w6 ⟨rfl, hb⟩
            have HA6 := Lib.hid (HA5.out.below hb)
            clear hb HA5
            unfold putAns
            simp only [Option.getD_some, Option.isSome_some]
            obtain ⟨uq, huq⟩ := tC_cell tq q HLT.out
            have hcq : w6.cell? ⟨w.heap.size, q, none⟩ = some uq := (cell_of_row _ _ q _ _ _ HA6.out.tt).trans huq
            have hfq : w6.frozen? ⟨w.heap.size, q, none⟩ = false := free_of_row HA6.out.tt q
            clear huq
            go_wp2_with fail
            have HT7 : Hid ((w6.setCell ⟨w.heap.size, q, none⟩ (.string (bs (tq q)))).heap[w.heap.size]? = some (.cells (tC tq (q + 1)) 63 (0, 0))) := by
              have := heap_set HA6.out.tt q (.string (bs (tq q)))
              rw [tC_set tq q HLT.out] at this
              exact this
            have HB7 := Lib.hid (HA6.out.bel.setCell (p := ⟨w.heap.size, q, none⟩) (Nat.le_refl _) (.string (bs (tq q))))
            clear hcq hfq HA6
            go_roundw
            case rel => exact ⟨q + 1, by omega, by go_num, HB7.out, HT7.out⟩
            case measure => simp only [intOf]; omega
          · have HJ : Hid ((0 : Int) ≤ 3 ∧ (3 : Int) < 6) := by unfold Hid; decide
            have g5 := HA.out.cellAt k _ (apL_at hk16 9 A c) 3 _ rfl
            clear HS
            go_upto_region 27 with fail
            have HA5 : Hid (ApSt w (wr.setCell ⟨L0 + 1, k * 10 + 3, none⟩ (.int .i64 (1000 + nq q))) (tC tq q) L0 (L0 + 1) ((List.replicate 16 ⟨hd0, none, 0⟩).set k ⟨apD 3 (nq q), A, c⟩)) := by
              have h := HA.out.field k _ (apL_at hk16 9 A c) 3 (by decide) (1000 + nq q)
              rw [apL_set] at h
              rw [apD_3]
              exact h
            generalize (wr.setCell ⟨L0 + 1, k * 10 + 3, none⟩ (.int .i64 (1000 + nq q))) = W5 at *
            clear HA g5
            go_wp2_with fail
            refine (tput_val 7 _ _ _ HA5.out.hs.reads (by rw [HA5.out.len]; decide) (apSet_short k _ (by rw [apD_len HJ.out]; decide)) (some (tq q)) (by rw [apL_map]; exact HNQ.out.2)).mono ?_
            rintro e w6 ⟨rfl, hb⟩
            have HA6 := Lib.hid (HA5.out.below hb)
            clear hb HA5
            unfold putAns
            simp only [Option.getD_some, Option.isSome_some]
            obtain ⟨uq, huq⟩ := tC_cell tq q HLT.out
            have hcq : w6.cell? ⟨w.heap.size, q, none⟩ = some uq := (cell_of_row _ _ q _ _ _ HA6.out.tt).trans huq
            have hfq : w6.frozen? ⟨w.heap.size, q, none⟩ = false := free_of_row HA6.out.tt q
            clear huq
            go_wp2_with fail
            have HT7 : Hid ((w6.setCell ⟨w.heap.size, q, none⟩ (.string (bs (tq q)))).heap[w.heap.size]? = some (.cells (tC tq (q + 1)) 63 (0, 0))) := by
              have := heap_set HA6.out.tt q (.string (bs (tq q)))
              rw [tC_set tq q HLT.out] at this
              exact this
            have HB7 := Lib.hid (HA6.out.bel.setCell (p := ⟨w.heap.size, q, none⟩) (Nat.le_refl _) (.string (bs (tq q))))
            clear hcq hfq HA6
            go_roundw
            case rel => exact ⟨q + 1, by omega, by go_num, HB7.out, HT7.out⟩
            case measure => simp only [intOf]; omega
          · have HJ : Hid ((0 : Int) ≤ 4 ∧ (4 : Int) < 6) := by unfold Hid; decide
            have g9 := HA.out.cellAt k _ (apL_at hk16 9 A c) 9 _ rfl
            have e0 : wr.cell? ⟨L0, 0, none⟩ = some (.int .i64 9) := HA.out.lim 0
            have hki : (k : Int) < 16 := by omega
            have hS9 := HS.out
            simp only [segs9_len] at g9 hS9
            obtain ⟨g, rfl, hg1, hg2⟩ := own_addr hS9 (by decide)
            have g8 := El.Own.atAddr hS9 (segs9_len 9).symm 8 _ (show (segs9 9)[8]? = some 16 from rfl) 0 _ rfl
            simp only [EI, Nat.mul_one, Nat.add_zero] at g8
            clear hS9 HS
            go_upto_region 26 with fail
            go_region
            go_upto_region 27 with fail
            have HA5 : Hid (ApSt w (wr.setCell ⟨g, 8, none⟩ (.int .i64 (500 + nq q))).drew (tC tq q) L0 (L0 + 1) ((List.replicate 16 ⟨hd0, none, 0⟩).set k ⟨apD 4 (nq q), some ⟨g, 0, none⟩, c⟩)) := by
              have h := HA.out.segstore k _ (apL_at hk16 9 _ c) g rfl 8 (by rw [segs9_len]; decide) (500 + nq q)
              rw [apL_set] at h
              rw [apD_4]
              exact h.below (Below.refl _ _).drew
            generalize (wr.setCell ⟨g, 8, none⟩ (.int .i64 (500 + nq q))).drew = W5 at *
            clear HA g9 g8 e0 hki
            go_wp2_with fail
            refine (tput_val 7 _ _ _ HA5.out.hs.reads (by rw [HA5.out.len]; decide) (apSet_short k _ (by rw [apD_len HJ.out]; decide)) (some (tq q)) (by rw [apL_map]; exact HNQ.out.2)).mono ?_
            rintro e w6 ⟨rfl, hb⟩
            have HA6 := Lib.hid (HA5.out.below hb)
            clear hb HA5
            unfold putAns
            simp only [Option.getD_some, Option.isSome_some]
            obtain ⟨uq, huq⟩ := tC_cell tq q HLT.out
            have hcq : w6.cell? ⟨w.heap.size, q, none⟩ = some uq := (cell_of_row _ _ q _ _ _ HA6.out.tt).trans huq
            have hfq : w6.frozen? ⟨w.heap.size, q, none⟩ = false := free_of_row HA6.out.tt q
            clear huq
            go_wp2_with fail
            have HT7 : Hid ((w6.setCell ⟨w.heap.size, q, none⟩ (.string (bs (tq q)))).heap[w.heap.size]? = some (.cells (tC tq (q + 1)) 63 (0, 0))) := by
              have := heap_set HA6.out.tt q (.string (bs (tq q)))
              rw [tC_set tq q HLT.out] at this
              exact this
            have HB7 := Lib.hid (HA6.out.bel.setCell (p := ⟨w.heap.size, q, none⟩) (Nat.le_refl _) (.string (bs (tq q))))
            clear hcq hfq HA6
            go_roundw
            case rel => exact ⟨q + 1, by omega, by go_num, HB7.out, HT7.out⟩
            case measure => simp only [intOf]; omega
          · have HJ : Hid ((0 : Int) ≤ 5 ∧ (5 : Int) < 6) := by unfold Hid; decide
            have g5 := HA.out.cellAt k _ (apL_at hk16 9 A c) 0 _ rfl
            simp only [Nat.add_zero] at g5
            go_upto_region 27 with fail
            have HA5 : Hid (ApSt w (wr.setCell ⟨L0 + 1, k * 10, none⟩ (.int .i64 (1 + nq q % 2))) (tC tq q) L0 (L0 + 1) ((List.replicate 16 ⟨hd0, none, 0⟩).set k ⟨apD 5 (nq q), A, c⟩)) := by
              have h := HA.out.field k _ (apL_at hk16 9 A c) 0 (by decide) (1 + nq q % 2)
              rw [apL_set] at h
              rw [apD_5]
              exact h
            generalize (wr.setCell ⟨L0 + 1, k * 10, none⟩ (.int .i64 (1 + nq q % 2))) = W5 at *
            clear HA g5
            go_wp2_with fail
            refine (tput_val 7 _ _ _ HA5.out.hs.reads (by rw [HA5.out.len]; decide) (apSet_short k _ (by rw [apD_len HJ.out]; decide)) (some (tq q)) (by rw [apL_map]; exact HNQ.out.2)).mono ?_
            rintro e w6 ⟨rfl, hb⟩
            have HA6 := Lib.hid (HA5.out.below hb)
            clear hb HA5
            unfold putAns
            simp only [Option.getD_some, Option.isSome_some]
            obtain ⟨uq, huq⟩ := tC_cell tq q HLT.out
            have hcq : w6.cell? ⟨w.heap.size, q, none⟩ = some uq := (cell_of_row _ _ q _ _ _ HA6.out.tt).trans huq
            have hfq : w6.frozen? ⟨w.heap.size, q, none⟩ = false := free_of_row HA6.out.tt q
            clear huq
            go_wp2_with fail
            have HT7 : Hid ((w6.setCell ⟨w.heap.size, q, none⟩ (.string (bs (tq q)))).heap[w.heap.size]? = some (.cells (tC tq (q + 1)) 63 (0, 0))) := by
              have := heap_set HA6.out.tt q (.string (bs (tq q)))
              rw [tC_set tq q HLT.out] at this
              exact this
            have HB7 := Lib.hid (HA6.out.bel.setCell (p := ⟨w.heap.size, q, none⟩) (Nat.le_refl _) (.string (bs (tq q))))
            clear hcq hfq HA6
            go_roundw
            case rel => exact ⟨q + 1, by omega, by go_num, HB7.out, HT7.out⟩
            case measure => simp only [intOf]; omega
    · obtain rfl : q = 2 := by omega
      clear hlt hq2
      have c0' : wq.cell? ⟨w.heap.size, 0, none⟩ = some (.string (bs (tq 0))) := cell_of_row _ _ 0 _ _ _ HT.out
      have c1' : wq.cell? ⟨w.heap.size, 1, none⟩ = some (.string (bs (tq 1))) := cell_of_row _ _ 1 _ _ _ HT.out
      have hj' : j = 5 ∨ j ≠ 5 := by omega
      have R0 := Lib.hid (HN.out 0 (by decide)).1
      have R1 := Lib.hid (HN.out 1 (by decide)).1
      go_wp2_with fail
      refine (PJ.out _ a0 a1 (by decide) (by decide)).mono ?_
      rintro e w5 ⟨rfl, rfl⟩
      rcases hj' with rfl | hj5
      · go_wp2_with fail
        rotate_left
        · rename_i h
          refine absurd ?_ h
          rw [Int.tmod_eq_emod_of_nonneg R0.out.1, Int.tmod_eq_emod_of_nonneg R1.out.1, bs_toList, bs_toList, Bool.eq_iff_iff, beq_iff_eq, beq_iff_eq]
          exact HEQ.out.2 trivial
        refine (awake6_any _).mono ?_
        rintro e w7 ⟨rfl, hb⟩
        have HB8 := Lib.hid (HB.out.trans (hb.mono HB.out.size))
        clear hb
        go_wp2_with fail
        go_ret
        exact ⟨rfl, HB8.out⟩
      · go_wp2_with fail
        rotate_left
        · rename_i h
          refine absurd ?_ h
          rw [bs_toList, bs_toList, Bool.eq_iff_iff, beq_iff_eq, beq_iff_eq]
          exact HEQ.out.1 hj5
        refine (awake6_any _).mono ?_
        rintro e w7 ⟨rfl, hb⟩
        have HB8 := Lib.hid (HB.out.trans (hb.mono HB.out.size))
        clear hb
        go_wp2_with fail
        go_ret
        exact ⟨rfl, HB8.out⟩
end
end Go.Proofs.Ytjoplgdcpihmaaa
