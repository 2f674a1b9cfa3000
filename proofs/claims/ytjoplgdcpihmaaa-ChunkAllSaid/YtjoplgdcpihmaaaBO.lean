/- Bytes under way: a slice of bytes that the call has made (also out of a string), appended to: strings, bytes 0. -/
import Derived.Test.YtjoplgdcpihmaaaFr
import Derived.Test.YtjoplgdcpihmaaaFlip
import Derived.Lib.AppendStr
import Derived.Lib.AppendZeros
import Derived.Lib.AppendZerosOnto
import Derived.Laws.IdiomCopy
import Derived.Deep.Upon
namespace Go.Proofs.Ytjoplgdcpihmaaa
open Go.RowKit

theorem setCells_size (b : Nat) : ∀ (vs : List Value) (o : Nat) (w : World), (w.setCells b o vs).heap.size = w.heap.size
  | [], _, _ => rfl
  | v :: vs, o, w => by show (World.setCells _ b _ vs).heap.size = _; rw [setCells_size b vs]; simp [World.setCell]
theorem setCells_below {B b : Nat} (hb : B ≤ b) : ∀ (vs : List Value) (o : Nat) (w : World), Below B w (w.setCells b o vs)
  | [], _, _ => Below.refl _ _
  | v :: vs, o, w => ((Below.refl B w).setCell (p := ⟨b, o, none⟩) hb v).trans (setCells_below hb vs _ _)
def BO (W : World) (base : Nat) (v : Value) (l : List UInt8) : Prop :=
  ∃ g cap, v = .slice (some ⟨g, 0, none⟩) l.length cap ∧ base ≤ g ∧ g < W.heap.size ∧ l.length ≤ cap ∧ cap ≤ maxLen ∧
    (∀ j, j < cap → (W.cell? ⟨g, j, none⟩).isSome = true ∧ W.frozen? ⟨g, j, none⟩ = false) ∧ ∀ j, j < l.length → W.cell? ⟨g, j, none⟩ = some (.int .u8 (vB (nth l j)))
namespace BO
variable {W W' : World} {base : Nat} {v : Value} {l m : List UInt8}
theorem kept {row : Option Nat} (h : BO W base v l) (hg : W.grownBy W' row) (hne : ∀ k, v.ownBlock = some k → row ≠ some k) : BO W' base v l := by
  obtain ⟨g, cap, rfl, h1, h2, h3, h4, h5, h6⟩ := h
  have hb := hg.block g h2 (fun e => hne g rfl e.symm)
  refine ⟨g, cap, rfl, h1, Nat.lt_of_lt_of_le h2 hg.size, h3, h4, fun j hj => ?_, fun j hj => ?_⟩
  · rw [World.cell?_of_block (w := W) (a := ⟨g, j, none⟩) hb, World.frozen?_of_block (w := W) (a := ⟨g, j, none⟩) hb]; exact h5 j hj
  · rw [World.cell?_of_block (w := W) (a := ⟨g, j, none⟩) hb]; exact h6 j hj
theorem below (h : BO W base v l) (hb : Below W.heap.size W W') : BO W' base v l := h.kept (El.grown_of_below hb none) (fun k _ e => by cases e)
theorem drew (h : BO W base v l) : BO W.drew base v l := h
theorem alloc (h : BO W base v l) (o : Obj) : BO (W.alloc o) base v l := h.below ((Below.refl _ _).alloc (Nat.le_refl _) _)
theorem lt (h : BO W base v l) : ∀ k, v.ownBlock = some k → base ≤ k ∧ k < W.heap.size := by
  obtain ⟨g, cap, rfl, h1, h2, -⟩ := h
  intro k hk
  simp only [Value.ownBlock, Option.some.injEq] at hk
  subst hk; exact ⟨h1, h2⟩
theorem of_bytes (w : World) (l : List UInt8) (hb : base ≤ w.heap.size) (hl : l.length ≤ maxLen) : BO (Lib.bytesWorld w 5 (bs l)) base (.slice (some ⟨w.heap.size, 0, none⟩) l.length (grownCap w l.length 0 5)) l := by
  have hs := bs_size l
  have hge := grownCap_ge w l.length 0 5
  have hsz : (Lib.bytesCells w 5 (bs l)).size = grownCap w l.length 0 5 := by
    unfold Lib.bytesCells
    rw [Array.size_append, Array.size_map, Array.size_replicate, hs]
    have : (bs l).data.size = l.length := hs
    omega
  have hat := Lib.bytesWorld_at_new w 5 (bs l)
  refine ⟨w.heap.size, _, rfl, hb, by rw [Lib.bytesWorld_size]; omega, hge, grownCap_le_maxLen _ _ _ _ hl, fun j hj => ⟨?_, ?_⟩, fun j hj => bytes_cell w 5 l j hj⟩
  · unfold World.cell?
    simp only [hat, Option.isSome_none, Bool.false_eq_true, ↓reduceIte]
    rw [Array.getElem?_eq_getElem (by rw [hsz]; exact hj)]; rfl
  · unfold World.frozen?
    simp only [hat, Bool.and_eq_false_iff, decide_eq_false_iff_not]
    left; rw [hsz]; omega
theorem conv (h : BO W base v l) : (convert 38 9 v).run Try.prog W = .ok (.string (bs l)) W := by
  obtain ⟨g, cap, rfl, h1, h2, h3, h4, h5, h6⟩ := h
  exact conv_bytes W g 0 cap l (fun j hj => by rw [Nat.zero_add]; exact h6 j hj)
end BO
theorem strCells_bs (m : List UInt8) : Lib.strCells (bs m) = m.map fun b => Value.int .u8 (vB b) := rfl
theorem nth_append (l m : List UInt8) (j : Nat) : nth (l ++ m) j = if j < l.length then nth l j else nth m (j - l.length) := by
  unfold nth
  rw [List.getD_eq_getElem?_getD, List.getElem?_append]
  split <;> rw [List.getD_eq_getElem?_getD]
theorem map_at (m : List UInt8) (j : Nat) (hj : j < m.length) : (m.map fun b => Value.int .u8 (vB b))[j]'(by rw [List.length_map]; exact hj) = .int .u8 (vB (nth m j)) := by
  rw [List.getElem_map]
  simp only [nth, List.getD_eq_getElem?_getD, List.getElem?_eq_getElem hj, Option.getD_some]
theorem cell_alloc_row (w : World) (l : List Value) (t : TypeId) (j : Nat) : (w.alloc (.cells l.toArray t)).cell? ⟨w.heap.size, j, none⟩ = l[j]? := by
  rw [World.cell?_alloc_at (w := w) l.toArray t w.heap.size j rfl]; simp
/-- Bytes m stored behind l: what the row holds then. -/
theorem BO.after_room {W : World} {base g cap : Nat} {l m : List UInt8} (h1 : base ≤ g) (h2 : g < W.heap.size) (h4 : cap ≤ maxLen) (hroom : l.length + m.length ≤ cap)
    (h5 : ∀ j, j < cap → (W.cell? ⟨g, j, none⟩).isSome = true ∧ W.frozen? ⟨g, j, none⟩ = false) (h6 : ∀ j, j < l.length → W.cell? ⟨g, j, none⟩ = some (.int .u8 (vB (nth l j)))) :
    BO (W.setCells g l.length (m.map fun b => Value.int .u8 (vB b))) base (.slice (some ⟨g, 0, none⟩) (l.length + m.length) cap) (l ++ m) ∧ W.grownBy (W.setCells g l.length (m.map fun b => Value.int .u8 (vB b))) (some g) := by
  have hin := World.cell?_setCells_in g (m.map fun b => Value.int .u8 (vB b)) l.length W (fun j hj => (h5 _ (by rw [List.length_map] at hj; omega)).1)
  have hsz := setCells_size g (m.map fun b => Value.int .u8 (vB b)) l.length W
  have hbel := fun (B : Nat) (hB : B ≤ g) => setCells_below (B := B) (b := g) hB (m.map fun b => Value.int .u8 (vB b)) l.length W
  refine ⟨⟨g, cap, by rw [List.length_append], h1, by rw [hsz]; exact h2, by rw [List.length_append]; exact hroom, h4, fun j hj => ⟨?_, ?_⟩, fun j hj => ?_⟩, ⟨(hbel g (Nat.le_refl _)).os, (hbel g (Nat.le_refl _)).tape, (hbel g (Nat.le_refl _)).output, by rw [hsz]; exact Nat.le_refl _, fun k hk hne => World.heap_setCells_other W g _ _ hk (fun e => hne (by rw [e]))⟩⟩
  · by_cases hj2 : l.length ≤ j ∧ j < l.length + m.length
    · have := hin (j - l.length) (by rw [List.length_map]; omega)
      rw [show l.length + (j - l.length) = j by omega] at this
      rw [this]; rfl
    · rw [World.cell?_setCells_out g _ _ _ ⟨g, j, none⟩ (fun _ _ => by simp only [List.length_map]; omega)]; exact (h5 j hj).1
  · rw [World.frozen?_setCells]; exact (h5 j hj).2
  · rw [List.length_append] at hj
    rw [nth_append]
    by_cases hj2 : j < l.length
    · rw [if_pos hj2, World.cell?_setCells_out g _ _ _ ⟨g, j, none⟩ (fun _ _ => by simp only [List.length_map]; omega)]; exact h6 j hj2
    · rw [if_neg hj2]
      have := hin (j - l.length) (by rw [List.length_map]; omega)
      rw [show l.length + (j - l.length) = j by omega] at this
      rw [this, map_at m _ (by omega)]
theorem BO.new_row {w : World} {base : Nat} {l : List UInt8} {rest : List Value} (hb : base ≤ w.heap.size) {cap : Nat} (hc : l.length + rest.length = cap) (h4 : cap ≤ maxLen) :
    BO (w.alloc (.cells ((l.map fun b => Value.int .u8 (vB b)) ++ rest).toArray 5)) base (.slice (some ⟨w.heap.size, 0, none⟩) l.length cap) l := by
  refine ⟨w.heap.size, cap, rfl, hb, by simp, by omega, h4, fun j hj => ⟨?_, free_of_row (heap_alloc_new w _) j⟩, fun j hj => ?_⟩
  · rw [cell_alloc_row, List.getElem?_eq_getElem (by rw [List.length_append, List.length_map]; omega)]; rfl
  · rw [cell_alloc_row, List.getElem?_append_left (by rw [List.length_map]; exact hj), List.getElem?_eq_getElem (by rw [List.length_map]; exact hj), map_at l j hj]
theorem zeroCells_len (n : Nat) : (Builtin.zeroCells (Value.int .u8 0).cells n).toList.length = n := by
  have h := size_zeroCells (Value.int .u8 0).cells n
  have h1 : (Value.int .u8 0).cells.size = 1 := rfl
  rw [h1, Nat.mul_one] at h
  rw [Array.length_toList]; exact h
theorem info5' : ∃ i : TypeInfo, Try.prog.info? 5 = some i ∧ i.zero = some (.int .u8 0) ∧ i.size = 1 ∧ i.bytes = 1 := by
  obtain ⟨i, hi, hh⟩ := Option.map_eq_some_iff.1 info5
  simp only [Prod.mk.injEq] at hh
  exact ⟨i, hi, hh.1, hh.2.1, hh.2.2⟩
/-- append(b, s...), s a string. -/
theorem BO.run_str {W : World} {base : Nat} {v : Value} {l : List UInt8} (h : BO W base v l) (m : List UInt8) (ty : TypeId) (hb : base ≤ W.heap.size) (hl : l.length + m.length ≤ 140737488355328) :
    ∃ v' w', (Builtin.append_ #[38, 9] ty #[v, .string (bs m)]).run Try.prog W = .ok v' w' ∧ BO w' base v' (l ++ m) ∧ W.grownBy w' v.ownBlock := by
  obtain ⟨i, hi, hz, hs1, hby⟩ := info5'
  obtain ⟨g, cap, rfl, h1, h2, h3, h4, h5, h6⟩ := h
  by_cases hroom : l.length + m.length ≤ cap
  · have hsz := bs_size m
    have hroom' : l.length + (bs m).size ≤ cap := by rw [hsz]; exact hroom
    have hf := Lib.run_firstCells_string (P := Try.prog) W 1 (bs m)
    have hst := run_storeCells_cells (P := Try.prog) g l.length (Lib.strCells (bs m)) 0 W (fun j hj => (h5 _ (by rw [Lib.strCells_length, hsz] at hj; omega)).1) (fun j hj => (h5 _ (by rw [Lib.strCells_length, hsz] at hj; omega)).2) (Lib.strCells_oneCell _)
    simp only [Nat.add_zero] at hst
    obtain ⟨r1, r2⟩ := BO.after_room h1 h2 h4 hroom h5 h6
    refine ⟨_, _, ?_, r1, r2⟩
    rw [← hsz, ← strCells_bs]
    simp [Builtin.append_, run_underlying Try.underlying38, run_underlying Try.underlying9, sizeOf, typeInfo, hi, hs1, Builtin.lenOf, hroom', hf, Addr.add_lit, hst]
  · have hsz := bs_size m
    have hr := Lib.run_append_grow_string (P := Try.prog) W 38 9 ty 5 i (.int .u8 0) Try.underlying38 Try.underlying9 hi hz ⟨g, 0, none⟩ l.length cap (l.map fun b => Value.int .u8 (vB b)) (by rw [List.length_map, hs1, Nat.mul_one])
      (fun j u hu => by
        have hj := (List.getElem?_eq_some_iff.1 hu).1
        rw [List.length_map] at hj
        rw [List.getElem?_eq_getElem (by rw [List.length_map]; exact hj), map_at l j hj] at hu
        rw [addr_add, Nat.zero_add, h6 j hj]; exact hu) (bs m) (by rw [hsz]; omega) (by rw [hsz]; omega) (by rw [hby, hsz]; exact growslice_fits (by omega) (by omega))
    rw [hsz, strCells_bs] at hr
    have hge := grownCap_ge W (l.length + m.length) cap 5
    refine ⟨_, _, hr, ?_, ⟨rfl, rfl, rfl, by simp, fun k hk _ => Below.heap_alloc W.drew _ k hk⟩⟩
    have e : ((l.map fun b => Value.int .u8 (vB b)).toArray ++ (m.map fun b => Value.int .u8 (vB b)).toArray ++ Builtin.zeroCells (Value.int .u8 0).cells (grownCap W (l.length + m.length) cap 5 - (l.length + m.length))) =
        (((l ++ m).map fun b => Value.int .u8 (vB b)) ++ (Builtin.zeroCells (Value.int .u8 0).cells (grownCap W (l.length + m.length) cap 5 - (l.length + m.length))).toList).toArray := by
      apply Array.ext'; simp
    rw [e]
    have := BO.new_row (w := W.drew) (base := base) (l := l ++ m) (rest := (Builtin.zeroCells (Value.int .u8 0).cells (grownCap W (l.length + m.length) cap 5 - (l.length + m.length))).toList) hb (cap := grownCap W (l.length + m.length) cap 5)
      (by rw [List.length_append, zeroCells_len]; omega) (grownCap_le_maxLen _ _ _ _ (by simp only [maxLen]; omega))
    rw [List.length_append] at this
    exact this
theorem zeroCells_list (n : Nat) : (Builtin.zeroCells (Value.int .u8 0).cells n).toList = (List.replicate n (0 : UInt8)).map fun b => Value.int .u8 (vB b) := by
  apply List.ext_getElem
  · rw [zeroCells_len, List.length_map, List.length_replicate]
  · intro i h1 h2
    simp [Builtin.zeroCells, Value.cells, Nat.mod_one, vB]
/-- append(b, make([]byte, n)...). -/
theorem BO.run_zeros {W : World} {base : Nat} {v : Value} {l : List UInt8} (h : BO W base v l) (n : Nat) (hn : 0 < n) (ty : TypeId) (hb : base ≤ W.heap.size) (hl : l.length + n ≤ 140737488355328) :
    ∃ v' w', (Builtin.append_ #[38, 3] ty #[v, .int .i64 n]).run Try.prog W = .ok v' w' ∧ BO w' base v' (l ++ List.replicate n 0) ∧ W.grownBy w' v.ownBlock := by
  obtain ⟨i, hi, hz, hs1, hby⟩ := info5'
  obtain ⟨g, cap, rfl, h1, h2, h3, h4, h5, h6⟩ := h
  have hlen : (List.replicate n (0 : UInt8)).length = n := List.length_replicate
  by_cases hroom : l.length + n ≤ cap
  · obtain ⟨r1, r2⟩ := BO.after_room (m := List.replicate n 0) h1 h2 h4 (by rw [hlen]; exact hroom) h5 h6
    have hst := run_storeCells_cells (P := Try.prog) g l.length ((List.replicate n (0 : UInt8)).map fun b => Value.int .u8 (vB b)) 0 W (fun j hj => (h5 _ (by rw [List.length_map, hlen] at hj; omega)).1) (fun j hj => (h5 _ (by rw [List.length_map, hlen] at hj; omega)).2) (fun u hu => by
      simp only [List.mem_map] at hu
      obtain ⟨b, -, rfl⟩ := hu
      rfl)
    simp only [Nat.add_zero] at hst
    rw [← zeroCells_list] at hst r1 r2
    rw [hlen] at r1
    refine ⟨_, _, ?_, r1, r2⟩
    have hw : IntKind.i64.wrap (n : Int) = n := by rw [IntKind.wrap_i64]; omega
    have hneg : ¬ ((n : Int) < 0) := by omega
    have h48 : ¬ (281474976710656 < (n : Int)) := by omega
    have hn0 : n ≠ 0 := by omega
    simp [Builtin.append_, run_underlying Try.underlying38, run_underlying Try.underlying3, sizeOf, typeInfo, zeroValue, hi, hz, hs1, hby, asInt, asIntOf, hw, hneg, h48, hn0, hroom, Addr.add_lit, hst]
  · have hfo := run_firstCells_some (P := Try.prog) W.drew 1 l.length ⟨g, 0, none⟩ l.length cap (l.map fun b => Value.int .u8 (vB b)) (by rw [List.length_map, Nat.mul_one]) (fun j u hu => by
        have hj := (List.getElem?_eq_some_iff.1 hu).1
        rw [List.length_map] at hj
        rw [List.getElem?_eq_getElem (by rw [List.length_map]; exact hj), map_at l j hj] at hu
        rw [addr_add, Nat.zero_add]
        have := h6 j hj
        rw [← hu]; exact this)
    have hr := Lib.run_append_grow_zeros (P := Try.prog) W 38 3 ty 5 i (.int .u8 0) .i64 .i64 Try.underlying38 Try.underlying3 hi hz (some ⟨g, 0, none⟩) l.length cap (l.map fun b => Value.int .u8 (vB b)) (by rw [hs1]; exact hfo) n hn (by omega) (by omega) (by omega) (by rw [hby]; omega) (by rw [hby]; exact growslice_fits (by omega) (by omega))
    have hge := grownCap_ge W (l.length + n) cap 5
    refine ⟨_, _, hr, ?_, ⟨rfl, rfl, rfl, by simp, fun k hk _ => Below.heap_alloc W.drew _ k hk⟩⟩
    have e : ((l.map fun b => Value.int .u8 (vB b)).toArray ++ Builtin.zeroCells (Value.int .u8 0).cells n ++ Builtin.zeroCells (Value.int .u8 0).cells (grownCap W (l.length + n) cap 5 - (l.length + n))) =
        (((l ++ List.replicate n 0).map fun b => Value.int .u8 (vB b)) ++ (Builtin.zeroCells (Value.int .u8 0).cells (grownCap W (l.length + n) cap 5 - (l.length + n))).toList).toArray := by
      apply Array.ext'
      rw [Array.toList_append, Array.toList_append, zeroCells_list n, List.map_append]
    rw [e]
    have := BO.new_row (w := W.drew) (base := base) (l := l ++ List.replicate n 0) (rest := (Builtin.zeroCells (Value.int .u8 0).cells (grownCap W (l.length + n) cap 5 - (l.length + n))).toList) hb (cap := grownCap W (l.length + n) cap 5)
      (by rw [List.length_append, hlen, zeroCells_len]; omega) (grownCap_le_maxLen _ _ _ _ (by simp only [maxLen]; omega))
    rw [List.length_append, hlen] at this
    exact this
end Go.Proofs.Ytjoplgdcpihmaaa
