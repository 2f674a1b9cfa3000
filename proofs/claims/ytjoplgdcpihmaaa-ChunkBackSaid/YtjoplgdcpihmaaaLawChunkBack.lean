/- The law ChunkBack holds for every input: the call returns true and leaves its arguments as they were. No condition. -/
import Derived.Test.YtjoplgdcpihmaaaRows
import Derived.Test.YtjoplgdcpihmaaaChkD
import Derived.Test.YtjoplgdcpihmaaaOpen2
import Derived.Test.YtjoplgdcpihmaaaFacts
import Derived.WalkKit
import Derived.ProofKit
import Derived.OpenShut
import Derived.ShutString
import Derived.ChangeOld
import Derived.Below
import Derived.SizedLaws
namespace Go.Proofs.Ytjoplgdcpihmaaa.chunkBack
open Go.ChangeShapes Go.WideShapes Go.ChangeAt Go.RowKit
open Go.ChangeMaps (open_string)
theorem own : ownKnob Try.prog.godebug = none := by kernel_rfl
set_option maxRecDepth 100000 in
theorem lifted (os : Os) (started : os.Started) (H : Type) (enc : TypeId × Value → H) :
    ReturnsInHanded {} Try.checked os 13 .any (Rows.chunkBackSpec.pre6 enc Try.prog Try.f13 Rows.chunkBackRow.domain false) (Rows.chunkBackSpec.post enc Try.prog Try.f13 false true false false) := by
  refine returnsInHanded_of_change_sized (C := Try.checked) own started (by kernel_rfl) Try.func13
    (ChangeSpec.witness6 (enc := enc) (C := Try.checked) false ⟨#[], #[.slice none 0 0, .string ⟨#[]⟩, .int .i64 0, .int .i64 0], []⟩ 8 (by kernel_rfl) (by kernel_rfl) (by kernel_rfl) (by kernel_rfl)) ?_
  intro W base args ds gs before hval0 hW _ _ _
  have hval : ∀ (j : Nat) t v, Try.f13.params[j]? = some t → args[j]? = some v → Value.okWide Try.prog W .any base t v := hval0
  have hW' := hW
  obtain ⟨p, q, hA0, hV, rfl, _, _⟩ := hW
  have hA : DataW.TrodAll enc Try.prog W 0 (fun _ => true) true Try.f13.params.toList args.toList ds p := hA0
  rw [Try.params13] at hA hval
  have hAA := hA
  obtain ⟨v0, vs0, d0, ds0, p0, q0, hargs, rfl, rfl, h0, r0⟩ := trodAll_cons hA
  obtain ⟨v1, vs1, d1, ds1, p1, q1, rfl, rfl, rfl, h1, r1⟩ := trodAll_cons r0
  obtain ⟨v2, vs2, d2, ds2, p2, q2, rfl, rfl, rfl, h2, r2⟩ := trodAll_cons r1
  obtain ⟨v3, vs3, d3, ds3, p3, q3, rfl, rfl, rfl, h3, r3⟩ := trodAll_cons r2
  obtain ⟨rfl, rfl, rfl⟩ := trodAll_nil r3
  obtain rfl : args = #[v0, v1, v2, v3] := by cases args; simp_all
  obtain ⟨rfl, rfl⟩ := trodVars_none hV
  obtain ⟨l0, e0, n0, x0⟩ := open_ints (hval 0 58 v0 rfl rfl) h0
  obtain ⟨s1, rfl, rfl, rfl, w1⟩ := open_string Try.underlying9 (hval 1 9 v1 rfl rfl) h1
  obtain ⟨a2, rfl, rfl, rfl, w2⟩ := open_int Try.underlying3 (hval 2 3 v2 rfl rfl) h2
  have b2 : -9223372036854775808 ≤ a2 ∧ a2 ≤ 9223372036854775807 := by
    have z := w2
    simp [Lit.wf, IntKind.min, IntKind.max, IntKind.bits, IntKind.signed] at z
    omega
  obtain ⟨a3, rfl, rfl, rfl, w3⟩ := open_int Try.underlying3 (hval 3 3 v3 rfl rfl) h3
  have b3 : -9223372036854775808 ≤ a3 ∧ a3 ≤ 9223372036854775807 := by
    have z := w3
    simp [Lit.wf, IntKind.min, IntKind.max, IntKind.bits, IntKind.signed] at z
    omega
  clear hA0 hval0
  refine (chunkBack_walk v0 l0 s1.data.toList a2 a3 W e0 n0 x0 b2.1 b2.2 b3.1 b3.2).mono fun e W' ⟨he, bel⟩ => ?_
  subst he
  exact ⟨_, rfl, _, _, _, [], _, [], hW', trodAll_mk1 (shut_bool Try.underlying4 _), args_stay_of Facts.laidOut bel _ (args_ok (by kernel_rfl)) _ _ _ hAA, rfl, bel.frame _, fun h => by cases h⟩
set_option maxHeartbeats 4000000 in
theorem closed : joinedFacts Try.checked.prog 13 Try.f13 Rows.chunkBackSpec Rows.chunkBackRow = true := by
  unfold joinedFacts
  simp only [Bool.and_eq_true]
  exact ⟨⟨⟨⟨⟨⟨⟨⟨⟨⟨⟨⟨⟨⟨⟨⟨⟨⟨⟨⟨⟨⟨⟨⟨⟨⟨⟨⟨⟨⟨⟨(by as_aux_lemma => kernel_rfl), Facts.laidOut⟩, Facts.mapsRowed⟩, (by as_aux_lemma => kernel_rfl)⟩, (by as_aux_lemma => kernel_rfl)⟩, (by as_aux_lemma => kernel_rfl)⟩, Facts.stops⟩, (by as_aux_lemma => kernel_rfl)⟩, Facts.stopKnobs⟩, (by as_aux_lemma => kernel_rfl)⟩, (by as_aux_lemma => kernel_rfl)⟩, (by as_aux_lemma => kernel_rfl)⟩, (by as_aux_lemma => kernel_rfl)⟩, (by as_aux_lemma => kernel_rfl)⟩, (by as_aux_lemma => kernel_rfl)⟩, (by as_aux_lemma => kernel_rfl)⟩, (by as_aux_lemma => kernel_rfl)⟩, (by as_aux_lemma => kernel_rfl)⟩, (by as_aux_lemma => kernel_rfl)⟩, (by as_aux_lemma => kernel_rfl)⟩, (by as_aux_lemma => kernel_rfl)⟩, (by as_aux_lemma => kernel_rfl)⟩, (by rw [Facts.plainKeys]; rfl)⟩, (by as_aux_lemma => kernel_rfl)⟩, Facts.stopsHeard⟩, Facts.mayEnter⟩, (by rw [Facts.liftsFinal]; rfl)⟩, (by rw [Facts.make]; rfl)⟩, (by as_aux_lemma => kernel_rfl)⟩, (by as_aux_lemma => kernel_rfl)⟩, (by as_aux_lemma => kernel_rfl)⟩, (by as_aux_lemma => kernel_rfl)⟩
theorem named : Try.checked.prog.funcNamed Rows.chunkBackRow.func = some 13 := by kernel_rfl
theorem instance_ : Try.f13.isInstance Try.checked.prog Rows.chunkBackRow.origin Rows.chunkBackRow.targs := of_decide_eq_true (by kernel_rfl)
theorem wrapper_ : Try.f13.isWrapper Try.checked.prog Rows.chunkBackRow.wrapper Rows.chunkBackRow.mainSum := by unfold Func.isWrapper; first | (rw [if_pos (by decide +kernel)]; kernel_rfl) | (rw [if_neg (by decide +kernel)]; exact ⟨rfl, rfl⟩)
theorem over : Rows.chunkBackRow.holds Try.pinned (OpenSpec.ofChange Rows.chunkBackSpec) :=
  OpenClaim.holds_of_wide 13 Try.f13 rfl rfl rfl rfl rfl rfl rfl ⟨rfl, rfl, rfl, rfl, rfl⟩ rfl rfl rfl rfl rfl named Try.func13 closed instance_ wrapper_
    (fun os started H enc _ => lifted os started H enc)
end Go.Proofs.Ytjoplgdcpihmaaa.chunkBack
namespace Go.Proofs.Ytjoplgdcpihmaaa
theorem chunkBack_holds : Rows.ChunkBackSaid := chunkBack.over
#print axioms chunkBack_holds
end Go.Proofs.Ytjoplgdcpihmaaa
