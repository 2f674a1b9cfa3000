/- Arguments in memory: slices of numbers. -/
import Derived.Test.YtjoplgdcpihmaaaOpen
import Derived.Test.YtjoplgdcpihmaaaTabB
import Derived.Test.YtjoplgdcpihmaaaMadeA
namespace Go.Proofs.Ytjoplgdcpihmaaa
open Go.RowKit Go.ChangeShapes Go.WideShapes Go.Deep Go.Joins
section
variable {H : Type} {enc : TypeId × Value → H} {w : World} {base : Nat} {spare : Nat → Bool} {held : Bool}
/-- A slice that comes in, with what is known of each element. -/
theorem El.open_ofP {α : Type} (E : El α) (p : α → Prop) (z : α) {n : Nat} {u : Value} {y : DataW H × List MemPlace} (hC : Try.prog.cellsOf E.e = E.size)
    (hel : ∀ n cs y, DataW.trod enc Try.prog w 0 (fun _ => true) true n E.e cs = some y → ∃ x, cs = E.enc x ∧ p x) (h : DataW.trod enc Try.prog w 0 (fun _ => true) true n E.t [u] = some y) :
    ∃ l : List α, E.Reads w u l ∧ NilOk u ∧ (∀ x ∈ l, p x) ∧ l.length ≤ 9223372036854775807 := by
  rcases open_slice E.ht h with ⟨hcs, -⟩ | ⟨a, len, cap, m, n', D, Pl, hcs, -, hl, hcap, hm, -, hi⟩
  · simp only [List.cons.injEq, and_true] at hcs
    subst hcs
    exact ⟨[], El.Reads.nil _, nilOk_nil, ⟨(fun x hx => by cases hx), Nat.zero_le _⟩⟩
  · simp only [List.cons.injEq, and_true] at hcs
    subst hcs
    simp only [↓reduceIte] at hm
    subst hm
    have hex : ∀ i, ∃ x : α, i < len → (∀ j u, (E.enc x)[j]? = some u → w.cell? (a.add (i * E.size + j)) = some u) ∧ p x := by
      intro i
      by_cases hil : i < len
      · obtain ⟨cs', hc, ht⟩ := hi i (by omega)
        obtain ⟨x, rfl, hp⟩ := hel _ _ _ ht
        refine ⟨x, fun _ => ⟨fun j u hu => ?_, hp⟩⟩
        rw [hC] at hc
        rw [← add_twice]
        exact cells_at hc j u hu
      · exact ⟨z, fun h => absurd h hil⟩
    refine ⟨_, El.reads_of E hl (fun i => Classical.choose (hex i)) (fun i hil => (Classical.choose_spec (hex i) hil).1), nilOk_some _ _ _, fun x hx => ?_, ?_⟩
    · obtain ⟨i, hi, rfl⟩ := List.mem_map.1 hx
      exact (Classical.choose_spec (hex i) (List.mem_range.1 hi)).2
    · rw [List.length_map, List.length_range]
      unfold maxLen at hcap
      omega
theorem inI_of {k : Int} (h : (Lit.int .i64 k).wf = true) : inI k := by
  simp [Lit.wf, IntKind.min, IntKind.max, IntKind.bits, IntKind.signed] at h
  unfold inI; omega
theorem open_int1 {n : Nat} {cs : List Value} {y : DataW H × List MemPlace} (h : DataW.trod enc Try.prog w base spare held n 3 cs = some y) : ∃ k, cs = [.int .i64 k] ∧ inI k := by
  obtain ⟨k, e, -, hw⟩ := DataW.trod_int Try.underlying3 h
  exact ⟨k, e, inI_of hw⟩
set_option maxRecDepth 100000 in
theorem open_ints {r : Reach} {b0 : Nat} {v : Value} {d : DataW H} {p : List MemPlace} (hv : Value.okWide Try.prog w r b0 58 v) (h : DataW.Trod enc Try.prog w 0 (fun _ => true) true 58 v d p) :
    ∃ l : List Int, EI.Reads w v l ∧ NilOk v ∧ (∀ x ∈ l, inI x) ∧ l.length ≤ 9223372036854775807 := by
  obtain ⟨a, len, cap, rfl⟩ := okWide_slice Try.underlying58 hv
  obtain ⟨fuel, hf⟩ := h
  exact El.open_ofP EI inI 0 (by kernel_rfl) (fun n cs y h => by
    obtain ⟨k, e, hk⟩ := open_int1 h
    exact ⟨k, e, hk⟩) hf
end
end Go.Proofs.Ytjoplgdcpihmaaa
