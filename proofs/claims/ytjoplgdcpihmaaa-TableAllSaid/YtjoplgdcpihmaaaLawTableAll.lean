/- The law TableAll holds for every input: the call returns true and leaves its arguments as they were. No condition. -/
import Derived.Test.YtjoplgdcpihmaaaRows
import Derived.Test.YtjoplgdcpihmaaaTabX
import Derived.Test.YtjoplgdcpihmaaaOpen3
import Derived.Test.YtjoplgdcpihmaaaFacts
import Derived.WalkKit
import Derived.ProofKit
import Derived.OpenShut
import Derived.ShutString
import Derived.ChangeOld
import Derived.Below
import Derived.SizedLaws
namespace Go.Proofs.Ytjoplgdcpihmaaa.tableAll
open Go.ChangeShapes Go.WideShapes Go.ChangeAt Go.RowKit
open Go.ChangeMaps (open_string)
theorem own : ownKnob Try.prog.godebug = none := by kernel_rfl
set_option maxRecDepth 100000 in
theorem lifted (os : Os) (started : os.Started) (H : Type) (enc : TypeId × Value → H) :
    ReturnsInHanded {} Try.checked os 7 .any (Rows.tableAllSpec.pre6 enc Try.prog Try.f7 Rows.tableAllRow.domain false) (Rows.tableAllSpec.post enc Try.prog Try.f7 false true false false) := by
  refine returnsInHanded_of_change_sized (C := Try.checked) own started (by kernel_rfl) Try.func7
    (ChangeSpec.witness6 (enc := enc) (C := Try.checked) false ⟨#[], #[.int .i64 0, .int .i64 0, .slice none 0 0, .agg #[.int .i64 0, .int .i64 0, .int .i64 0, .int .i64 0, .int .i64 0, .int .i64 0, .int .i64 0], .string ⟨#[]⟩], []⟩ 8 (by kernel_rfl) (by kernel_rfl) (by kernel_rfl) (by kernel_rfl)) ?_
  intro W base args ds gs before hval0 hW _ _ _
  have hval : ∀ (j : Nat) t v, Try.f7.params[j]? = some t → args[j]? = some v → Value.okWide Try.prog W .any base t v := hval0
  have hW' := hW
  obtain ⟨p, q, hA0, hV, rfl, _, _⟩ := hW
  have hA : DataW.TrodAll enc Try.prog W 0 (fun _ => true) true Try.f7.params.toList args.toList ds p := hA0
  rw [Try.params7] at hA hval
  have hAA := hA
  obtain ⟨v0, vs0, d0, ds0, p0, q0, hargs, rfl, rfl, h0, r0⟩ := trodAll_cons hA
  obtain ⟨v1, vs1, d1, ds1, p1, q1, rfl, rfl, rfl, h1, r1⟩ := trodAll_cons r0
  obtain ⟨v2, vs2, d2, ds2, p2, q2, rfl, rfl, rfl, h2, r2⟩ := trodAll_cons r1
  obtain ⟨v3, vs3, d3, ds3, p3, q3, rfl, rfl, rfl, h3, r3⟩ := trodAll_cons r2
  obtain ⟨v4, vs4, d4, ds4, p4, q4, rfl, rfl, rfl, h4, r4⟩ := trodAll_cons r3
  obtain ⟨rfl, rfl, rfl⟩ := trodAll_nil r4
  obtain rfl : args = #[v0, v1, v2, v3, v4] := by cases args; simp_all
  obtain ⟨rfl, rfl⟩ := trodVars_none hV
  obtain ⟨a0, rfl, rfl, rfl, w0⟩ := open_int Try.underlying3 (hval 0 3 v0 rfl rfl) h0
  have b0 : -9223372036854775808 ≤ a0 ∧ a0 ≤ 9223372036854775807 := by
    have z := w0
    simp [Lit.wf, IntKind.min, IntKind.max, IntKind.bits, IntKind.signed] at z
    omega
  obtain ⟨a1, rfl, rfl, rfl, w1⟩ := open_int Try.underlying3 (hval 1 3 v1 rfl rfl) h1
  have b1 : -9223372036854775808 ≤ a1 ∧ a1 ≤ 9223372036854775807 := by
    have z := w1
    simp [Lit.wf, IntKind.min, IntKind.max, IntKind.bits, IntKind.signed] at z
    omega
  obtain ⟨l2, e2, n2, x2⟩ := open_houses (hval 2 46 v2 rfl rfl) h2
  obtain ⟨g3, rfl⟩ := open_limit (hval 3 48 v3 rfl rfl) h3
  obtain ⟨s4, rfl, rfl, rfl, w4⟩ := open_string Try.underlying9 (hval 4 9 v4 rfl rfl) h4
  clear hA0 hval0
  refine (tableAll_walk a0 a1 v2 l2 g3 s4.data.toList W b0.1 b0.2 b1.1 b1.2 e2 n2 x2).mono fun e W' ⟨he, bel⟩ => ?_
  subst he
  exact ⟨_, rfl, _, _, _, [], _, [], hW', trodAll_mk1 (shut_bool Try.underlying4 _), args_stay_of Facts.laidOut bel _ (args_ok (by kernel_rfl)) _ _ _ hAA, rfl, bel.frame _, fun h => by cases h⟩
set_option maxHeartbeats 4000000 in
theorem closed : joinedFacts Try.checked.prog 7 Try.f7 Rows.tableAllSpec Rows.tableAllRow = true := by
  unfold joinedFacts
  simp only [Bool.and_eq_true]
  exact ⟨⟨⟨⟨⟨⟨⟨⟨⟨⟨⟨⟨⟨⟨⟨⟨⟨⟨⟨⟨⟨⟨⟨⟨⟨⟨⟨⟨⟨⟨⟨(by as_aux_lemma => kernel_rfl), Facts.laidOut⟩, Facts.mapsRowed⟩, (by as_aux_lemma => kernel_rfl)⟩, (by as_aux_lemma => kernel_rfl)⟩, (by as_aux_lemma => kernel_rfl)⟩, Facts.stops⟩, (by as_aux_lemma => kernel_rfl)⟩, Facts.stopKnobs⟩, (by as_aux_lemma => kernel_rfl)⟩, (by as_aux_lemma => kernel_rfl)⟩, (by as_aux_lemma => kernel_rfl)⟩, (by as_aux_lemma => kernel_rfl)⟩, (by as_aux_lemma => kernel_rfl)⟩, (by as_aux_lemma => kernel_rfl)⟩, (by as_aux_lemma => kernel_rfl)⟩, (by as_aux_lemma => kernel_rfl)⟩, (by as_aux_lemma => kernel_rfl)⟩, (by as_aux_lemma => kernel_rfl)⟩, (by as_aux_lemma => kernel_rfl)⟩, (by as_aux_lemma => kernel_rfl)⟩, (by as_aux_lemma => kernel_rfl)⟩, (by rw [Facts.plainKeys]; rfl)⟩, (by as_aux_lemma => kernel_rfl)⟩, Facts.stopsHeard⟩, Facts.mayEnter⟩, (by rw [Facts.liftsFinal]; rfl)⟩, (by rw [Facts.make]; rfl)⟩, (by as_aux_lemma => kernel_rfl)⟩, (by as_aux_lemma => kernel_rfl)⟩, (by as_aux_lemma => kernel_rfl)⟩, (by as_aux_lemma => kernel_rfl)⟩
theorem named : Try.checked.prog.funcNamed Rows.tableAllRow.func = some 7 := by kernel_rfl
theorem instance_ : Try.f7.isInstance Try.checked.prog Rows.tableAllRow.origin Rows.tableAllRow.targs := of_decide_eq_true (by kernel_rfl)
theorem wrapper_ : Try.f7.isWrapper Try.checked.prog Rows.tableAllRow.wrapper Rows.tableAllRow.mainSum := by unfold Func.isWrapper; first | (rw [if_pos (by decide +kernel)]; kernel_rfl) | (rw [if_neg (by decide +kernel)]; exact ⟨rfl, rfl⟩)
theorem over : Rows.tableAllRow.holds Try.pinned (OpenSpec.ofChange Rows.tableAllSpec) :=
  OpenClaim.holds_of_wide 7 Try.f7 rfl rfl rfl rfl rfl rfl rfl ⟨rfl, rfl, rfl, rfl, rfl⟩ rfl rfl rfl rfl rfl named Try.func7 closed instance_ wrapper_
    (fun os started H enc _ => lifted os started H enc)
end Go.Proofs.Ytjoplgdcpihmaaa.tableAll
namespace Go.Proofs.Ytjoplgdcpihmaaa
theorem tableAll_holds : Rows.TableAllSaid := tableAll.over
#print axioms tableAll_holds
end Go.Proofs.Ytjoplgdcpihmaaa
