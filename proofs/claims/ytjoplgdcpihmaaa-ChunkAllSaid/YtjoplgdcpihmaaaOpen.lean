/- Arguments in memory: what a slice argument reads as; an argument reads behind the call as it did. -/
import Derived.Test.YtjoplgdcpihmaaaHeadA
import Derived.Test.YtjoplgdcpihmaaaFacts
import Derived.ProofKit
import Derived.OpenShut
import Derived.ShutString
import Derived.ChangeOld
import Derived.Carry
import Derived.Deep.Slices
import Derived.Deep.Fields
import Derived.ChangeSame
import Derived.Lib.SmallJoins
namespace Go.Proofs.Ytjoplgdcpihmaaa
open Go.RowKit Go.ChangeShapes Go.WideShapes Go.Deep Go.Joins

section
variable {H : Type} {enc : TypeId × Value → H} {w : World} {base : Nat} {spare : Nat → Bool} {held : Bool}
/-- A struct's field of one cell, read by itself. -/
theorem one_field {n off j : Nat} {ft : TypeId} {cs : List Value} {xs : List (DataW H × List MemPlace)} {c : Value} (hg : DataW.trod enc Try.prog w base spare held n ft ((cs.drop off).take (Try.prog.cellsOf ft)) = xs[j]?) (hC : Try.prog.cellsOf ft = 1)
    (hc : (cs.drop off).take 1 = [c]) (hj : j < xs.length) : ∃ y, DataW.trod enc Try.prog w base spare held n ft [c] = some y := by
  rw [hC, hc, List.getElem?_eq_getElem hj] at hg
  exact ⟨_, hg⟩
theorem one_int {n off j : Nat} {cs : List Value} {xs : List (DataW H × List MemPlace)} {c : Value} (hg : DataW.trod enc Try.prog w base spare held n 3 ((cs.drop off).take (Try.prog.cellsOf 3)) = xs[j]?)
    (hc : (cs.drop off).take 1 = [c]) (hj : j < xs.length) : ∃ k, c = .int .i64 k ∧ (Lit.int .i64 k).wf = true := by
  obtain ⟨y, hy⟩ := one_field hg (by kernel_rfl) hc hj
  obtain ⟨k, e, -, hw⟩ := DataW.trod_int Try.underlying3 hy
  exact ⟨k, by simpa using e, hw⟩
theorem cells_at {a : Addr} {n : Nat} {cs : List Value} (h : w.cells? base a n = some cs) (j : Nat) (u : Value) (hu : cs[j]? = some u) : w.cell? (a.add j) = some u := by
  obtain ⟨_, hl, hat⟩ := World.cells?_some h
  have hj := (List.getElem?_eq_some_iff.1 hu).1
  rw [hat j (by omega)]; exact hu
theorem add_twice (a : Addr) (i j : Nat) : (a.add i).add j = a.add (i + j) := by
  unfold Addr.add
  by_cases hi : i = 0 <;> by_cases hj : j = 0 <;> simp [hi, hj, Nat.add_assoc]
end
theorem cell_spot {w : World} {a : Addr} {u : Value} (h : w.cell? a = some u) : a.spot = none := by
  unfold World.cell? at h
  split at h
  · split at h
    · cases h
    · rename_i hs; cases hsp : a.spot with
      | none => rfl
      | some _ => rw [hsp] at hs; simp at hs
  · cases h
/-- A slice that comes in, its elements read one by one. -/
theorem El.reads_of {α : Type} (E : El α) {w : World} {a : Addr} {len cap : Nat} (hc : len ≤ cap) (f : Nat → α)
    (hcells : ∀ i, i < len → ∀ j u, (E.enc (f i))[j]? = some u → w.cell? (a.add (i * E.size + j)) = some u) : E.Reads w (.slice (some a) len cap) ((List.range len).map f) := by
  refine ⟨some a, cap, by simp, by simpa using hc, fun h0 => ?_⟩
  have h0' : 0 < len := by simpa using h0
  have hp := E.pos
  have hu : ∃ u, (E.enc (f 0))[0]? = some u := ⟨_, List.getElem?_eq_getElem (by rw [E.len]; exact hp)⟩
  obtain ⟨u, hu⟩ := hu
  have h1 := hcells 0 h0' 0 u hu
  have hs : a.spot = none := by
    have := cell_spot h1
    rwa [Nat.zero_mul, Nat.zero_add, show a.add 0 = a from by unfold Addr.add; simp] at this
  obtain ⟨b, o, s⟩ := a
  simp only at hs
  subst hs
  have hb := World.block_lt_of_cell? (w := w) (a := (⟨b, o, none⟩ : Addr).add (0 * E.size + 0)) h1
  rw [addr_add] at hb
  refine ⟨b, o, rfl, hb, fun k u hk => ?_⟩
  have hkl := (List.getElem?_eq_some_iff.1 hk).1
  rw [E.cells_length, List.length_map, List.length_range] at hkl
  have hi : k / E.size < len := Nat.div_lt_of_lt_mul (by rw [Nat.mul_comm]; exact hkl)
  have hj : k % E.size < E.size := Nat.mod_lt _ hp
  have hx : ((List.range len).map f)[k / E.size]? = some (f (k / E.size)) := by simp [hi]
  have he := E.cells_get _ _ (k % E.size) _ hx hj
  have hkk : k / E.size * E.size + k % E.size = k := by rw [Nat.mul_comm]; exact Nat.div_add_mod k E.size
  rw [hkk] at he
  have := hcells _ hi (k % E.size) u (by rw [← he]; exact hk)
  rw [hkk, addr_add] at this
  exact this
/-- A nil slice is told apart by its address alone. -/
def NilOk (v : Value) : Prop := ∀ c, v = .slice none 0 c → c = 0
theorem nilOk_nil : NilOk (.slice none 0 0) := fun c h => by injection h with _ _ h; exact h.symm
theorem nilOk_some (a : Addr) (n c : Nat) : NilOk (.slice (some a) n c) := fun c h => by cases h

section
variable {H : Type} {enc : TypeId × Value → H} {w : World}
set_option maxRecDepth 100000 in
theorem open_ent {n : Nat} {cs : List Value} {y : DataW H × List MemPlace} (h : DataW.trod enc Try.prog w 0 (fun _ => true) true n 42 cs = some y) : ∃ x : Ent, cs = EE.enc x := by
  obtain ⟨xs, n', _, -, hl, hxl, hg⟩ := DataW.trod_struct Try.underlying42 h
  have hl3 : cs.length = 3 := hl.trans (by kernel_rfl)
  have hx3 : xs.length = 3 := hxl
  match cs, hl3 with
  | [c0, c1, c2], _ =>
    obtain ⟨k0, rfl, -⟩ := one_int (hg 0 _ rfl) rfl (by omega)
    obtain ⟨k1, rfl, -⟩ := one_int (hg 1 _ rfl) rfl (by omega)
    obtain ⟨k2, rfl, -⟩ := one_int (hg 2 _ rfl) rfl (by omega)
    exact ⟨⟨k0, k1, k2⟩, rfl⟩
/-- A slice that comes in, whatever its elements are. -/
theorem El.open_of {α : Type} (E : El α) (z : α) {n : Nat} {u : Value} {y : DataW H × List MemPlace} (hC : Try.prog.cellsOf E.e = E.size)
    (hel : ∀ n cs y, DataW.trod enc Try.prog w 0 (fun _ => true) true n E.e cs = some y → ∃ x, cs = E.enc x) (h : DataW.trod enc Try.prog w 0 (fun _ => true) true n E.t [u] = some y) : ∃ l : List α, E.Reads w u l ∧ NilOk u := by
  rcases open_slice E.ht h with ⟨hcs, -⟩ | ⟨a, len, cap, m, n', D, Pl, hcs, -, hl, hcap, hm, -, hi⟩
  · simp only [List.cons.injEq, and_true] at hcs
    subst hcs
    exact ⟨[], El.Reads.nil _, nilOk_nil⟩
  · simp only [List.cons.injEq, and_true] at hcs
    subst hcs
    simp only [↓reduceIte] at hm
    subst hm
    have hex : ∀ i, ∃ x : α, i < len → ∀ j u, (E.enc x)[j]? = some u → w.cell? (a.add (i * E.size + j)) = some u := by
      intro i
      by_cases hil : i < len
      · obtain ⟨cs', hc, ht⟩ := hi i (by omega)
        obtain ⟨x, rfl⟩ := hel _ _ _ ht
        refine ⟨x, fun _ j u hu => ?_⟩
        rw [hC] at hc
        rw [← add_twice]
        exact cells_at hc j u hu
      · exact ⟨z, fun h => absurd h hil⟩
    exact ⟨_, El.reads_of E hl (fun i => Classical.choose (hex i)) (fun i hil => Classical.choose_spec (hex i) hil), nilOk_some _ _ _⟩
set_option maxRecDepth 100000 in
theorem open_ents {n : Nat} {u : Value} {y : DataW H × List MemPlace} (h : DataW.trod enc Try.prog w 0 (fun _ => true) true n 22 [u] = some y) : ∃ l : List Ent, EE.Reads w u l ∧ NilOk u :=
  El.open_of EE ⟨0, 0, 0⟩ (by kernel_rfl) (fun _ _ _ h => open_ent h) h
set_option maxRecDepth 100000 in
theorem open_head {r : Reach} {b0 : Nat} {v : Value} {d : DataW H} {p : List MemPlace} (hv : Value.okWide Try.prog w r b0 24 v) (h : DataW.Trod enc Try.prog w 0 (fun _ => true) true 24 v d p) :
    ∃ (h : Hd) (u : Value) (l : List Ent), v = .agg #[.int .i64 h.house, .int .i64 h.gen, .int .i64 h.life, .int .i64 h.seq, .int .i64 h.next, .int .i64 h.clock, .int .i64 h.sb, .int .i64 h.sn, u] ∧ EE.Reads w u l ∧ NilOk u := by
  obtain ⟨⟨cs⟩, rfl, -⟩ := okWide_struct Try.underlying24 hv
  obtain ⟨fuel, hf⟩ := h
  obtain ⟨xs, n, _, -, hl, hxl, hg⟩ := DataW.trod_struct Try.underlying24 hf
  have hl9 : cs.length = 9 := hl.trans (by kernel_rfl)
  have hx9 : xs.length = 9 := hxl
  match cs, hl9 with
  | [c0, c1, c2, c3, c4, c5, c6, c7, c8], _ =>
    obtain ⟨k0, rfl, -⟩ := one_int (hg 0 _ rfl) rfl (by omega)
    obtain ⟨k1, rfl, -⟩ := one_int (hg 1 _ rfl) rfl (by omega)
    obtain ⟨k2, rfl, -⟩ := one_int (hg 2 _ rfl) rfl (by omega)
    obtain ⟨k3, rfl, -⟩ := one_int (hg 3 _ rfl) rfl (by omega)
    obtain ⟨k4, rfl, -⟩ := one_int (hg 4 _ rfl) rfl (by omega)
    obtain ⟨k5, rfl, -⟩ := one_int (hg 5 _ rfl) rfl (by omega)
    obtain ⟨k6, rfl, -⟩ := one_int (hg 6 _ rfl) rfl (by omega)
    obtain ⟨k7, rfl, -⟩ := one_int (hg 7 _ rfl) rfl (by omega)
    obtain ⟨y, hy⟩ := one_field (c := c8) (hg 8 _ rfl) (by kernel_rfl) rfl (by omega)
    obtain ⟨l, hr, hn⟩ := open_ents hy
    exact ⟨⟨k0, k1, k2, k3, k4, k5, k6, k7⟩, c8, l, rfl, hr, hn⟩
/-- All arguments read behind the call as they did. -/
theorem args_stay_of {P : Program} (hl : laidOutB P = true) {W W' : World} (hb : Below W.heap.size W W') (ts : List TypeId) (ht : ∀ t ∈ ts, P.readableRec t = true ∧ t < P.types.size) :
    ∀ (vs : List Value) (ds : List (DataW H)) (ps : List MemPlace), DataW.TrodAll enc P W 0 (fun _ => true) true ts vs ds ps → DataW.TrodAll enc P W' 0 (fun b => decide (b < W.heap.size)) true ts vs ds ps := by
  induction ts with
  | nil => intro vs ds ps h; cases vs <;> cases ds <;> simp only [DataW.TrodAll] at h ⊢ <;> exact h
  | cons t ts ih =>
    intro vs ds ps h
    obtain ⟨v, vs', d, ds', p, q, rfl, rfl, rfl, ⟨n, hn⟩, hq⟩ := trodAll_cons h
    have h1 := ht t (by simp)
    exact ⟨p, q, Below.trod hl h1.1 h1.2 ⟨n, hn⟩ hb (DataW.trod_lt n _ _ _ hn), ih (fun t h => ht t (by simp [h])) _ _ _ hq, rfl⟩
theorem args_ok {P : Program} {ts : List TypeId} (h : ts.all (fun t => P.readableRec t && decide (t < P.types.size)) = true) : ∀ t ∈ ts, P.readableRec t = true ∧ t < P.types.size := fun t ht => by
  have := List.all_eq_true.1 h t ht
  simpa using this
end
end Go.Proofs.Ytjoplgdcpihmaaa
