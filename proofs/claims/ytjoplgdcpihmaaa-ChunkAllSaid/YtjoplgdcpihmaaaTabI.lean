/- What table.Get holds while it reads. -/
import Derived.Test.YtjoplgdcpihmaaaTabH
import Derived.Test.YtjoplgdcpihmaaaBin2
namespace Go.Proofs.Ytjoplgdcpihmaaa
open Go.RowKit

def getv (s : List UInt8) (i n : Int) : Int := (getB s i n).getD 0
def setF (d : HD) (k : Nat) (v : Int) : HD :=
  match k with
  | 0 => { d with st := v }
  | 1 => { d with gn := v }
  | 2 => { d with x := { d.x with sg := v } }
  | 3 => { d with x := { d.x with hb := v } }
  | 4 => { d with x := { d.x with sb := v } }
  | 5 => { d with x := { d.x with hn := v } }
  | 6 => { d with x := { d.x with sn := v } }
  | 7 => { d with x := { d.x with gr := v } }
  | 8 => { d with x := { d.x with bu := v } }
  | _ => { d with segs := if 0 < v then List.replicate (min v 40).toNat 0 else d.segs }
theorem setF_segs (d : HD) (k : Nat) (v : Int) (hk : k < 9) : (setF d k v).segs = d.segs := by
  have : k = 0 ∨ k = 1 ∨ k = 2 ∨ k = 3 ∨ k = 4 ∨ k = 5 ∨ k = 6 ∨ k = 7 ∨ k = 8 := by omega
  rcases this with rfl | rfl | rfl | rfl | rfl | rfl | rfl | rfl | rfl <;> rfl
theorem setF_enc (x : HM) (k : Nat) (v : Int) (hk : k < 9) : EH.enc ⟨setF x.d k v, x.A, x.c⟩ = (EH.enc x).set k (.int .i64 v) := by
  have : k = 0 ∨ k = 1 ∨ k = 2 ∨ k = 3 ∨ k = 4 ∨ k = 5 ∨ k = 6 ∨ k = 7 ∨ k = 8 := by omega
  rcases this with rfl | rfl | rfl | rfl | rfl | rfl | rfl | rfl | rfl <;> rfl
theorem El.made_cells {α : Type} (E : El α) (z0 : α) (hz : E.enc z0 = E.z.cells.toList) (n : Nat) : (madeCells E.z.cells (n * E.size)).toList = E.cells (List.replicate n z0) := by
  apply List.ext_getElem?
  intro j
  rcases Nat.lt_or_ge j (n * E.size) with hj | hj
  · have hp := E.pos
    have hi : j / E.size < n := (Nat.div_lt_iff_lt_mul hp).2 hj
    have hr := Nat.mod_lt j hp
    have e : j = j / E.size * E.size + j % E.size := by rw [Nat.mul_comm]; exact (Nat.div_add_mod j E.size).symm
    have h1 := E.cells_get (List.replicate n z0) (j / E.size) (j % E.size) z0 (by rw [List.getElem?_replicate, if_pos hi]) hr
    rw [← e, hz] at h1
    rw [h1]
    have hs := E.hz
    simp only [madeCells, Array.toList_map, Array.toList_range, List.getElem?_map, List.getElem?_range hj, Option.map_some, hs]
    rw [Array.getElem?_toList, Array.getElem?_eq_getElem (by rw [hs]; exact hr), getElem!_pos _ _ (by rw [hs]; exact hr)]
  · rw [List.getElem?_eq_none (by rw [Array.length_toList, size_madeCells]; exact hj), List.getElem?_eq_none (by rw [El.cells_length, List.length_replicate]; exact hj)]

/-- Get's state: the string's block, the place's, the houses'; each house's segments lie above these. -/
structure GSt (w W : World) (s : List UInt8) (lb : Nat) (pos : Int) (l : List HM) : Prop where
  bel : Below w.heap.size w W
  str : W.heap[w.heap.size]? = some (.cells #[.string (bs s)] 9 (0, 0))
  place : W.heap[w.heap.size + 1]? = some (.cells #[.int .i64 pos] 3 (0, 0))
  own : EH.Own W (w.heap.size + 2) (.slice (some ⟨lb, 0, none⟩) 16 16) l
  len : l.length = 16
  segs : ∀ x ∈ l, EI.Reads W (.slice x.A x.d.segs.length x.c) x.d.segs ∧ (∀ a, x.A = some a → lb < a.block ∧ a.block < W.heap.size) ∧ x.d.segs.length ≤ 40 ∧ (x.A = none → x.c = 0)
theorem above_ne {A : Option Addr} {n c p lb N : Nat} (h : ∀ a, A = some a → lb < a.block ∧ a.block < N) (hp : p ≤ lb) : (Value.slice A n c).ownBlock = none ∨ (Value.slice A n c).ownBlock ≠ some p := by
  cases A with
  | none => exact .inl rfl
  | some a =>
    refine .inr fun e => ?_
    have := (h a rfl).1
    simp only [Value.ownBlock, Option.some.injEq] at e
    omega
theorem grown_cell (W : World) (p : Addr) (u : Value) : W.grownBy (W.setCell p u) (some p.block) := ⟨rfl, rfl, rfl, by simp [World.setCell], fun _ _ hne => Below.heap_setCell _ _ _ _ (fun e => hne (by rw [e]))⟩
namespace GSt
variable {w W W' : World} {s : List UInt8} {lb : Nat} {pos : Int} {l : List HM}
theorem lt (h : GSt w W s lb pos l) : w.heap.size + 2 ≤ lb ∧ lb < W.heap.size := h.own.lt lb rfl
theorem below (h : GSt w W s lb pos l) (hb : Below W.heap.size W W') : GSt w W' s lb pos l :=
  ⟨h.bel.trans (hb.mono h.bel.size), (hb.block _ (lt_of_block h.str)).trans h.str, (hb.block _ (lt_of_block h.place)).trans h.place, h.own.below hb, h.len, fun x hx => ⟨(h.segs x hx).1.below hb, fun a e => ⟨((h.segs x hx).2.1 a e).1, Nat.lt_of_lt_of_le ((h.segs x hx).2.1 a e).2 hb.size⟩, (h.segs x hx).2.2⟩⟩
theorem drew (h : GSt w W s lb pos l) : GSt w W.drew s lb pos l := h.below (Below.refl _ _).drew
theorem alloc (h : GSt w W s lb pos l) (o : Obj) : GSt w (W.alloc o) s lb pos l := h.below ((Below.refl _ _).alloc (Nat.le_refl _) _)
theorem moved (h : GSt w W s lb pos l) (p : Int) : GSt w (W.setCell ⟨w.heap.size + 1, 0, none⟩ (.int .i64 p)) s lb p l := by
  have hl := h.lt
  refine ⟨h.bel.setCell (by simp) _, ?_, ?_, h.own.set (by simp) _, h.len, fun x hx => ⟨(h.segs x hx).1.kept (grown_cell W ⟨w.heap.size + 1, 0, none⟩ (.int .i64 p)) (above_ne (h.segs x hx).2.1 (by simp; omega)), fun a e => ⟨((h.segs x hx).2.1 a e).1, by have := ((h.segs x hx).2.1 a e).2; simpa [World.setCell] using this⟩, (h.segs x hx).2.2⟩⟩
  · rw [Below.heap_setCell _ _ _ _ (by simp)]; exact h.str
  · exact heap_set h.place 0 _
theorem put (h : GSt w W s lb pos l) (hg : W.grownBy W' (some lb)) (i : Nat) (x' : HM) (hown : EH.Own W' (w.heap.size + 2) (.slice (some ⟨lb, 0, none⟩) 16 16) (l.set i x'))
    (hs : EI.Reads W' (.slice x'.A x'.d.segs.length x'.c) x'.d.segs ∧ (∀ a, x'.A = some a → lb < a.block ∧ a.block < W'.heap.size) ∧ x'.d.segs.length ≤ 40 ∧ (x'.A = none → x'.c = 0)) : GSt w W' s lb pos (l.set i x') := by
  have hl := h.lt
  refine ⟨h.bel.grown hg h.bel.size (fun k e => by injection e; omega), ?_, ?_, hown, by rw [List.length_set]; exact h.len, fun x hx => ?_⟩
  · rw [hg.block _ (lt_of_block h.str) (by simp; omega)]; exact h.str
  · rw [hg.block _ (lt_of_block h.place) (by simp; omega)]; exact h.place
  · rcases List.mem_or_eq_of_mem_set hx with hm | rfl
    · exact ⟨(h.segs x hm).1.kept hg (above_ne (h.segs x hm).2.1 (Nat.le_refl _)), fun a e => ⟨((h.segs x hm).2.1 a e).1, Nat.lt_of_lt_of_le ((h.segs x hm).2.1 a e).2 hg.size⟩, (h.segs x hm).2.2⟩
    · exact hs
theorem store (h : GSt w W s lb pos l) (i : Nat) (x x' : HM) (hi : l[i]? = some x) (j : Nat) (hj : j < 10) (u : Value) (he : EH.enc x' = (EH.enc x).set j u)
    (hs : EI.Reads W (.slice x'.A x'.d.segs.length x'.c) x'.d.segs ∧ (∀ a, x'.A = some a → lb < a.block ∧ a.block < W.heap.size) ∧ x'.d.segs.length ≤ 40 ∧ (x'.A = none → x'.c = 0)) : GSt w (W.setCell ⟨lb, i * 10 + j, none⟩ u) s lb pos (l.set i x') := by
  have hl := h.len
  have ho : EH.Own W (w.heap.size + 2) (.slice (some ⟨lb, 0, none⟩) l.length 16) l := by rw [hl]; exact h.own
  have h2 := ho.store i j x x' u hi hj he
  rw [List.length_set, hl] at h2
  exact h.put (grown_cell W ⟨lb, i * 10 + j, none⟩ u) i x' h2 ⟨hs.1.kept (grown_cell W ⟨lb, i * 10 + j, none⟩ u) (above_ne hs.2.1 (Nat.le_refl _)), fun a e => ⟨(hs.2.1 a e).1, by have := (hs.2.1 a e).2; simpa [World.setCell] using this⟩, hs.2.2⟩
theorem field (h : GSt w W s lb pos l) (i : Nat) (x : HM) (hi : l[i]? = some x) (k : Nat) (hk : k < 9) (v : Int) : GSt w (W.setCell ⟨lb, i * 10 + k, none⟩ (.int .i64 v)) s lb pos (l.set i ⟨setF x.d k v, x.A, x.c⟩) := by
  have hs := h.segs x (List.mem_of_getElem? hi)
  refine h.store i x _ hi k (by omega) _ (setF_enc x k v hk) ?_
  simp only [setF_segs _ _ _ hk]
  exact hs
theorem far (h : GSt w W s lb pos l) {B3 : Nat} (hsb : ∀ x ∈ l, ∀ a, x.A = some a → a.block < B3) (hlb : lb < B3) {p : Addr} (hp : B3 ≤ p.block) (u : Value) : GSt w (W.setCell p u) s lb pos l := by
  have hl := h.lt
  refine ⟨h.bel.setCell (by omega) u, ?_, ?_, h.own.kept (grown_cell W p u) (.inr (by simp [Value.ownBlock]; omega)), h.len, fun x hx => ⟨(h.segs x hx).1.kept (grown_cell W p u) ?_, fun a e => ⟨((h.segs x hx).2.1 a e).1, by have := ((h.segs x hx).2.1 a e).2; simpa [World.setCell] using this⟩, (h.segs x hx).2.2⟩⟩
  · rw [Below.heap_setCell _ _ _ _ (by omega)]; exact h.str
  · rw [Below.heap_setCell _ _ _ _ (by omega)]; exact h.place
  · cases hA : x.A with
    | none => exact .inl rfl
    | some a =>
      have := hsb x hx a hA
      exact .inr (by simp [Value.ownBlock]; omega)
theorem at' (h : GSt w W s lb pos l) (i : Nat) (x : HM) (hi : l[i]? = some x) (j : Nat) (u : Value) (hu : (EH.enc x)[j]? = some u) : W.cell? ⟨lb, i * 10 + j, none⟩ = some u ∧ W.frozen? ⟨lb, i * 10 + j, none⟩ = false := h.own.atAddr h.len.symm i x hi j u hu
theorem reads (h : GSt w W s lb pos l) : HReads W (.slice (some ⟨lb, 0, none⟩) 16 16) l := ⟨h.own.reads, fun x hx => (h.segs x hx).1⟩
end GSt
theorem cf102 (args : Array Value) (W : World) : (callFunc 102 args).run Try.prog W = .ok (.enter 102 args) W := by simp [go_sem]
theorem cf136 (args : Array Value) (W : World) : (callFunc 136 args).run Try.prog W = .ok (.enter 136 args) W := by simp [go_sem]
theorem cf145 (args : Array Value) (W : World) : (callFunc 145 args).run Try.prog W = .ok (.enter 145 args) W := by simp [go_sem]
theorem El.mk_row {α : Type} (E : El α) (z0 : α) (hz : E.enc z0 = E.z.cells.toList) (n : Nat) (hb : E.bytes * n ≤ 281474976710656) (h63 : n ≤ 9223372036854775807) (base : Nat) (W : World) (hbase : base ≤ W.heap.size) :
    ∃ C, (Instr.makeSlice E.t (.int .i64 (n : Int)) (.int .i64 (n : Int))).run Try.prog W = .ok (.slice (some ⟨W.heap.size, 0, none⟩) n n) (W.alloc (.cells C E.e)) ∧ E.Own (W.alloc (.cells C E.e)) base (.slice (some ⟨W.heap.size, 0, none⟩) n n) (List.replicate n z0) := by
  obtain ⟨i0, hi, hzz⟩ := Option.map_eq_some_iff.1 E.hinfo
  simp only [Prod.mk.injEq] at hzz
  obtain ⟨hz0, hz1, hz2⟩ := hzz
  have hr := run_make (P := Try.prog) W E.t E.e i0 E.z E.ht hi hz0 .i64 .i64 n n (by omega) (Int.le_refl _) (by rw [hz2, ← Int.natCast_mul]; omega) (by omega)
  rw [Int.toNat_natCast, hz1] at hr
  refine ⟨_, hr, ?_⟩
  have ho := World.ownsRow_lit (base := base) (e := E.e) (size := E.size) W (madeCells E.z.cells (n * E.size)) n hbase (by simp only [maxLen]; omega) (size_madeCells _ _)
  rw [E.made_cells z0 hz n] at ho
  show World.ownsRow _ _ _ _ _ _ _
  rw [List.length_replicate]
  exact ho
section
set_option maxRecDepth 100000 in
set_option maxHeartbeats 1000000 in
theorem next_any (s : List UInt8) (sb ab : Nat) (pos n : Int) (w : World) (hl : s.length ≤ 140737488351232) (hS : w.heap[sb]? = some (.cells #[.string (bs s)] 9 (0, 0))) (hA : w.heap[ab]? = some (.cells #[.int .i64 pos] 3 (0, 0))) (hw : IntKind.i64.wrap (pos + n) = pos + n) :
    Calls Try.prog 102 #[.int .i64 n, .pointer (some ⟨sb, 0, none⟩), .pointer (some ⟨ab, 0, none⟩)] w fun e w' => e = .returned (.int .i64 (getv s pos n)) ∧ ∃ w1, Below w.heap.size w w1 ∧ w' = w1.setCell ⟨ab, 0, none⟩ (.int .i64 (pos + n)) := by
  have hs0 : w.cell? ⟨sb, 0, none⟩ = some (.string (bs s)) := cell_of_row _ _ 0 _ _ _ hS
  have ha0 : w.cell? ⟨ab, 0, none⟩ = some (.int .i64 pos) := cell_of_row _ _ 0 _ _ _ hA
  have HA := Lib.hid hA
  clear hS hA
  go_enter Try.func102, Try.ntmps102
  go_wp2_with fail
  refine (binGet_any s pos n _ hl).mono ?_
  rintro e w1 ⟨rfl, hb⟩
  have hA1 := (hb.block _ (lt_of_block HA.out)).trans HA.out
  have ha1 : w1.cell? ⟨ab, 0, none⟩ = some (.int .i64 pos) := cell_of_row _ _ 0 _ _ _ hA1
  have hf1 : w1.frozen? ⟨ab, 0, none⟩ = false := free_of_row hA1 0
  have HB := Lib.hid hb
  clear hA1 hb hs0 ha0
  go_wp2
  go_ret
  exact ⟨rfl, w1, HB.out, rfl⟩
set_option maxRecDepth 100000 in
set_option maxHeartbeats 1000000 in
theorem segset_any (w W : World) (s : List UInt8) (lb : Nat) (pos : Int) (l : List HM) (i : Nat) (x : HM) (v : Int) (h : GSt w W s lb pos l) (hi : l[i]? = some x) (hv : v ≤ 9223372036854775807) :
    Calls Try.prog 136 #[.pointer (some ⟨lb, i * 10, none⟩), .int .i64 v] W fun e w' => e = .returned (.tuple #[]) ∧ ∃ x', x'.d = setF x.d 9 v ∧ GSt w w' s lb pos (l.set i x') ∧ W.grownBy w' (some lb) := by
  by_cases hv0 : 0 < v
  · by_cases h40 : v ≤ 40
    · have hmn : (min v 40).toNat = v.toNat := by omega
      obtain ⟨C, hmk, hown⟩ := El.mk_row EI (0 : Int) rfl v.toNat (by simp only [EI]; omega) (by omega) W.heap.size W (Nat.le_refl _)
      simp only [EI] at hmk
      rw [show ((v.toNat : Nat) : Int) = v by omega] at hmk
      have hHA := h.alloc (.cells C 3)
      have hc' := (hHA.at' i x hi 9 _ rfl).1
      have hf' := (hHA.at' i x hi 9 _ rfl).2
      have hlb := h.lt.2
      have HF := Lib.hid (hHA.store i x ⟨setF x.d 9 v, some ⟨W.heap.size, 0, none⟩, v.toNat⟩ hi 9 (by decide) (.slice (some ⟨W.heap.size, 0, none⟩) v.toNat v.toNat) (by
        unfold setF; simp only [if_pos hv0, hmn, EH, encH, List.length_replicate]; rfl) (by
        have : (setF x.d 9 v).segs = List.replicate v.toNat 0 := by unfold setF; simp only [if_pos hv0, hmn]
        simp only [this, List.length_replicate]
        have hr := hown.reads
        exact ⟨hr, fun a e => by injection e with e; subst e; exact ⟨hlb, by simp⟩, by omega, fun e => by cases e⟩))
      have HG : Hid (W.grownBy ((W.alloc (.cells C 3)).setCell ⟨lb, i * 10 + 9, none⟩ (.slice (some ⟨W.heap.size, 0, none⟩) v.toNat v.toNat)) (some lb)) := by
        have g1 := El.grown_of_below ((Below.refl W.heap.size W).alloc (Nat.le_refl _) (.cells C 3)) (some lb)
        have g2 := grown_cell (W.alloc (.cells C 3)) ⟨lb, i * 10 + 9, none⟩ (.slice (some ⟨W.heap.size, 0, none⟩) v.toNat v.toNat)
        exact ⟨g2.os.trans g1.os, g2.tape.trans g1.tape, g2.output.trans g1.output, Nat.le_trans g1.size g2.size, fun k hk hne => (g2.block k (Nat.lt_of_lt_of_le hk g1.size) hne).trans (g1.block k hk hne)⟩
      clear hHA hown h hmn hlb
      go_enter Try.func136, Try.ntmps136
      go_wp2
      go_end0
      exact ⟨rfl, _, rfl, HF.out, HG.out⟩
    · have hmn : (min v 40).toNat = 40 := by omega
      obtain ⟨C, hmk, hown⟩ := El.mk_row EI (0 : Int) rfl 40 (by simp only [EI]; omega) (by omega) W.heap.size W (Nat.le_refl _)
      simp only [EI] at hmk
      rw [show ((40 : Nat) : Int) = 40 from rfl] at hmk
      have hHA := h.alloc (.cells C 3)
      have hc' := (hHA.at' i x hi 9 _ rfl).1
      have hf' := (hHA.at' i x hi 9 _ rfl).2
      have hlb := h.lt.2
      have HF := Lib.hid (hHA.store i x ⟨setF x.d 9 v, some ⟨W.heap.size, 0, none⟩, 40⟩ hi 9 (by decide) (.slice (some ⟨W.heap.size, 0, none⟩) 40 40) (by
        unfold setF; simp only [if_pos hv0, hmn, EH, encH, List.length_replicate]; rfl) (by
        have : (setF x.d 9 v).segs = List.replicate 40 0 := by unfold setF; simp only [if_pos hv0, hmn]
        simp only [this, List.length_replicate]
        have hr := hown.reads
        exact ⟨hr, fun a e => by injection e with e; subst e; exact ⟨hlb, by simp⟩, by omega, fun e => by cases e⟩))
      have HG : Hid (W.grownBy ((W.alloc (.cells C 3)).setCell ⟨lb, i * 10 + 9, none⟩ (.slice (some ⟨W.heap.size, 0, none⟩) 40 40)) (some lb)) := by
        have g1 := El.grown_of_below ((Below.refl W.heap.size W).alloc (Nat.le_refl _) (.cells C 3)) (some lb)
        have g2 := grown_cell (W.alloc (.cells C 3)) ⟨lb, i * 10 + 9, none⟩ (.slice (some ⟨W.heap.size, 0, none⟩) 40 40)
        exact ⟨g2.os.trans g1.os, g2.tape.trans g1.tape, g2.output.trans g1.output, Nat.le_trans g1.size g2.size, fun k hk hne => (g2.block k (Nat.lt_of_lt_of_le hk g1.size) hne).trans (g1.block k hk hne)⟩
      clear hHA hown h hmn hlb
      go_enter Try.func136, Try.ntmps136
      go_wp2
      go_end0
      exact ⟨rfl, _, rfl, HF.out, HG.out⟩
  · go_enter Try.func136, Try.ntmps136
    go_wp2
    go_end0
    refine ⟨rfl, x, ?_, ?_, ⟨rfl, rfl, rfl, Nat.le_refl _, fun _ _ _ => rfl⟩⟩
    · unfold setF; simp only [if_neg (show ¬ 0 < v by omega)]
    · rw [show l.set i x = l from ?_]
      · exact h
      · obtain ⟨hlt, rfl⟩ := List.getElem?_eq_some_iff.1 hi
        exact List.set_getElem_self hlt
end
end Go.Proofs.Ytjoplgdcpihmaaa
