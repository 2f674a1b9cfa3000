/- The law HeadApart: its walk. -/
import Derived.Test.YtjoplgdcpihmaaaHeadL
namespace Go.Proofs.Ytjoplgdcpihmaaa
open Go.RowKit

/-- Heads of one entry-less chunk by one number put at a place. -/
def hdAt (j : Nat) (a : Int) : Hd := ⟨if j = 0 then a else 1, if j = 1 then a else 1, if j = 2 then a else 1, if j = 3 then a else 1, if j = 4 then a else 0, if j = 5 then a else 0, if j = 6 then a else 0, if j = 7 then a else 0⟩
theorem hdAt_ok (j : Nat) (a : Int) (h1 : 1 ≤ a) (h2 : a ≤ 16) : checkB (hdAt j a) [] = true := by
  simp only [checkB, numsB, hdAt, Bool.and_eq_true, inB_iff, List.all_nil, decide_eq_true_eq, List.length_nil]
  refine ⟨⟨⟨?_, ?_, ?_, ?_, ?_, ?_, ?_, ?_⟩, by decide⟩, trivial⟩ <;> split <;> omega
theorem hdAt_inj {j : Nat} {a b : Int} (hj : j < 8) (h : hdAt j a = hdAt j b) : a = b := by
  have hj' : j = 0 ∨ j = 1 ∨ j = 2 ∨ j = 3 ∨ j = 4 ∨ j = 5 ∨ j = 6 ∨ j = 7 := by omega
  rcases hj' with rfl | rfl | rfl | rfl | rfl | rfl | rfl | rfl <;> (simp only [hdAt, Hd.mk.injEq] at h; simpa using h)
/-- Unlike heads have unlike bytes. -/
theorem put_inj {h h' : Hd} {l l' : List Ent} {b b' s s' : List UInt8} (hp : headPut h l b = some s) (hp' : headPut h' l' b' = some s') (e : s = s') : h = h' ∧ l = l' := by
  subst e
  have h1 := (get_put hp []).1
  have h2 := (get_put hp' []).1
  rw [h1] at h2
  simp only [Option.some.injEq, Prod.mk.injEq] at h2
  exact ⟨h2.1, h2.2.1⟩
theorem apart_eq {j : Nat} {a b : Int} {s t : List UInt8} (hj : j < 8) (hs : headPut (hdAt j a) [] [] = some s) (ht : headPut (hdAt j b) [] [] = some t) : (s == t) = (a == b) := by
  by_cases h : a = b
  · subst h
    rw [hs] at ht
    simp only [Option.some.injEq] at ht
    subst ht; simp
  · have hne : s ≠ t := fun e => h (hdAt_inj hj (put_inj hs ht e).1)
    rw [beq_eq_false_iff_ne.2 hne, beq_eq_false_iff_ne.2 h]
section
attribute [local go_sem] bs_toList
set_option maxRecDepth 100000 in
set_option maxHeartbeats 4000000 in
theorem headApart_walk (how v x : Int) (w : World) (a0 : -9223372036854775808 ≤ how) (a1 : how ≤ 9223372036854775807) (b0 : -9223372036854775808 ≤ v) (b1 : v ≤ 9223372036854775807) (c0 : -9223372036854775808 ≤ x) (c1 : x ≤ 9223372036854775807) :
    Calls Try.prog 6 #[.int .i64 how, .int .i64 v, .int .i64 x] w fun e w' => e = .returned (.bool true) ∧ Below w.heap.size w w' := by
  have hj := placeOf_bd how 8 (by decide)
  have ha := placeOf_bd v 16 (by decide)
  have hb := placeOf_bd x 16 (by decide)
  generalize hJ : placeOf how 8 = j at *
  generalize hA : placeOf v 16 = a at *
  generalize hX : placeOf x 16 = b at *
  have HJ := Lib.hid hJ
  have HA := Lib.hid hA
  have HX := Lib.hid hX
  clear hJ hA hX
  have hj' : j = 0 ∨ j = 1 ∨ j = 2 ∨ j = 3 ∨ j = 4 ∨ j = 5 ∨ j = 6 ∨ j = 7 := by omega
  clear hj
  have hB := fun (A B : Array Value) => ((Below.refl w.heap.size w).alloc (Nat.le_refl _) (.cells A 24)).alloc (by simp) (.cells B 24)
  have HB := Lib.hid hB
  clear hB
  have main : ∀ n : Nat, n < 8 → ∃ s t, headPut (hdAt n (1 + a)) [] [] = some s ∧ headPut (hdAt n (1 + b)) [] [] = some t ∧ (s == t) = ((1 + a) == (1 + b)) := fun n hn =>
    ⟨_, _, headPut_is (hdAt_ok n (1 + a) (by omega) (by omega)) rfl, headPut_is (hdAt_ok n (1 + b) (by omega) (by omega)) rfl, apart_eq hn (headPut_is (hdAt_ok n (1 + a) (by omega) (by omega)) rfl) (headPut_is (hdAt_ok n (1 + b) (by omega) (by omega)) rfl)⟩
  have HM := Lib.hid main
  clear main
  rcases hj' with rfl | rfl | rfl | rfl | rfl | rfl | rfl | rfl
  · obtain ⟨s, t, hs, ht, hst⟩ := HM.out 0 (by decide)
    have HS := Lib.hid hs
    have HT := Lib.hid ht
    clear hs ht
    go_enter Try.func6, Try.ntmps6
    go_wp2_with fail
    refine (place_any v 16 _ b0 b1 (by decide) (by decide)).mono ?_
    rintro e w1 ⟨rfl, rfl⟩
    rw [HA.out]
    go_wp2_with fail
    refine (place_any x 16 _ c0 c1 (by decide) (by decide)).mono ?_
    rintro e w1 ⟨rfl, rfl⟩
    rw [HX.out]
    go_wp2_with fail
    refine (place_any how 8 _ a0 a1 (by decide) (by decide)).mono ?_
    rintro e w1 ⟨rfl, rfl⟩
    rw [HJ.out]
    go_wp2_with fail
    refine (headPut_some (hdAt 0 (1 + a)) (.slice none 0 0) [] [] s _ (El.Reads.nil _) (by decide) (by decide) HS.out).mono ?_
    rintro e w1 ⟨rfl, hb1⟩
    obtain ⟨hc1, -⟩ := bcell hb1
    have HB1 := Lib.hid ((HB.out _ _).trans (hb1.mono (by simp; omega)))
    clear hb1
    go_wp2_with fail
    clear hc1
    refine (headPut_some (hdAt 0 (1 + b)) (.slice none 0 0) [] [] t _ (El.Reads.nil _) (by decide) (by decide) HT.out).mono ?_
    rintro e w2 ⟨rfl, hb2⟩
    have HB2 := Lib.hid (HB1.out.trans (hb2.mono HB1.out.size))
    clear hb2
    go_wp2_with fail
    refine (awake8_any _).mono ?_
    rintro e w3 ⟨rfl, hb3⟩
    have HB3 := Lib.hid (HB2.out.trans (hb3.mono HB2.out.size))
    clear hb3
    go_wp2
    go_ret
    exact ⟨rfl, HB3.out⟩
  · obtain ⟨s, t, hs, ht, hst⟩ := HM.out 1 (by decide)
    have HS := Lib.hid hs
    have HT := Lib.hid ht
    clear hs ht
    go_enter Try.func6, Try.ntmps6
    go_wp2_with fail
    refine (place_any v 16 _ b0 b1 (by decide) (by decide)).mono ?_
    rintro e w1 ⟨rfl, rfl⟩
    rw [HA.out]
    go_wp2_with fail
    refine (place_any x 16 _ c0 c1 (by decide) (by decide)).mono ?_
    rintro e w1 ⟨rfl, rfl⟩
    rw [HX.out]
    go_wp2_with fail
    refine (place_any how 8 _ a0 a1 (by decide) (by decide)).mono ?_
    rintro e w1 ⟨rfl, rfl⟩
    rw [HJ.out]
    go_wp2_with fail
    refine (headPut_some (hdAt 1 (1 + a)) (.slice none 0 0) [] [] s _ (El.Reads.nil _) (by decide) (by decide) HS.out).mono ?_
    rintro e w1 ⟨rfl, hb1⟩
    obtain ⟨hc1, -⟩ := bcell hb1
    have HB1 := Lib.hid ((HB.out _ _).trans (hb1.mono (by simp; omega)))
    clear hb1
    go_wp2_with fail
    clear hc1
    refine (headPut_some (hdAt 1 (1 + b)) (.slice none 0 0) [] [] t _ (El.Reads.nil _) (by decide) (by decide) HT.out).mono ?_
    rintro e w2 ⟨rfl, hb2⟩
    have HB2 := Lib.hid (HB1.out.trans (hb2.mono HB1.out.size))
    clear hb2
    go_wp2_with fail
    refine (awake8_any _).mono ?_
    rintro e w3 ⟨rfl, hb3⟩
    have HB3 := Lib.hid (HB2.out.trans (hb3.mono HB2.out.size))
    clear hb3
    go_wp2
    go_ret
    exact ⟨rfl, HB3.out⟩
  · obtain ⟨s, t, hs, ht, hst⟩ := HM.out 2 (by decide)
    have HS := Lib.hid hs
    have HT := Lib.hid ht
    clear hs ht
    go_enter Try.func6, Try.ntmps6
    go_wp2_with fail
    refine (place_any v 16 _ b0 b1 (by decide) (by decide)).mono ?_
    rintro e w1 ⟨rfl, rfl⟩
    rw [HA.out]
    go_wp2_with fail
    refine (place_any x 16 _ c0 c1 (by decide) (by decide)).mono ?_
    rintro e w1 ⟨rfl, rfl⟩
    rw [HX.out]
    go_wp2_with fail
    refine (place_any how 8 _ a0 a1 (by decide) (by decide)).mono ?_
    rintro e w1 ⟨rfl, rfl⟩
    rw [HJ.out]
    go_wp2_with fail
    refine (headPut_some (hdAt 2 (1 + a)) (.slice none 0 0) [] [] s _ (El.Reads.nil _) (by decide) (by decide) HS.out).mono ?_
    rintro e w1 ⟨rfl, hb1⟩
    obtain ⟨hc1, -⟩ := bcell hb1
    have HB1 := Lib.hid ((HB.out _ _).trans (hb1.mono (by simp; omega)))
    clear hb1
    go_wp2_with fail
    clear hc1
    refine (headPut_some (hdAt 2 (1 + b)) (.slice none 0 0) [] [] t _ (El.Reads.nil _) (by decide) (by decide) HT.out).mono ?_
    rintro e w2 ⟨rfl, hb2⟩
    have HB2 := Lib.hid (HB1.out.trans (hb2.mono HB1.out.size))
    clear hb2
    go_wp2_with fail
    refine (awake8_any _).mono ?_
    rintro e w3 ⟨rfl, hb3⟩
    have HB3 := Lib.hid (HB2.out.trans (hb3.mono HB2.out.size))
    clear hb3
    go_wp2
    go_ret
    exact ⟨rfl, HB3.out⟩
  · obtain ⟨s, t, hs, ht, hst⟩ := HM.out 3 (by decide)
    have HS := Lib.hid hs
    have HT := Lib.hid ht
    clear hs ht
    go_enter Try.func6, Try.ntmps6
    go_wp2_with fail
    refine (place_any v 16 _ b0 b1 (by decide) (by decide)).mono ?_
    rintro e w1 ⟨rfl, rfl⟩
    rw [HA.out]
    go_wp2_with fail
    refine (place_any x 16 _ c0 c1 (by decide) (by decide)).mono ?_
    rintro e w1 ⟨rfl, rfl⟩
    rw [HX.out]
    go_wp2_with fail
    refine (place_any how 8 _ a0 a1 (by decide) (by decide)).mono ?_
    rintro e w1 ⟨rfl, rfl⟩
    rw [HJ.out]
    go_wp2_with fail
    refine (headPut_some (hdAt 3 (1 + a)) (.slice none 0 0) [] [] s _ (El.Reads.nil _) (by decide) (by decide) HS.out).mono ?_
    rintro e w1 ⟨rfl, hb1⟩
    obtain ⟨hc1, -⟩ := bcell hb1
    have HB1 := Lib.hid ((HB.out _ _).trans (hb1.mono (by simp; omega)))
    clear hb1
    go_wp2_with fail
    clear hc1
    refine (headPut_some (hdAt 3 (1 + b)) (.slice none 0 0) [] [] t _ (El.Reads.nil _) (by decide) (by decide) HT.out).mono ?_
    rintro e w2 ⟨rfl, hb2⟩
    have HB2 := Lib.hid (HB1.out.trans (hb2.mono HB1.out.size))
    clear hb2
    go_wp2_with fail
    refine (awake8_any _).mono ?_
    rintro e w3 ⟨rfl, hb3⟩
    have HB3 := Lib.hid (HB2.out.trans (hb3.mono HB2.out.size))
    clear hb3
    go_wp2
    go_ret
    exact ⟨rfl, HB3.out⟩
  · obtain ⟨s, t, hs, ht, hst⟩ := HM.out 4 (by decide)
    have HS := Lib.hid hs
    have HT := Lib.hid ht
    clear hs ht
    go_enter Try.func6, Try.ntmps6
    go_wp2_with fail
    refine (place_any v 16 _ b0 b1 (by decide) (by decide)).mono ?_
    rintro e w1 ⟨rfl, rfl⟩
    rw [HA.out]
    go_wp2_with fail
    refine (place_any x 16 _ c0 c1 (by decide) (by decide)).mono ?_
    rintro e w1 ⟨rfl, rfl⟩
    rw [HX.out]
    go_wp2_with fail
    refine (place_any how 8 _ a0 a1 (by decide) (by decide)).mono ?_
    rintro e w1 ⟨rfl, rfl⟩
    rw [HJ.out]
    go_wp2_with fail
    refine (headPut_some (hdAt 4 (1 + a)) (.slice none 0 0) [] [] s _ (El.Reads.nil _) (by decide) (by decide) HS.out).mono ?_
    rintro e w1 ⟨rfl, hb1⟩
    obtain ⟨hc1, -⟩ := bcell hb1
    have HB1 := Lib.hid ((HB.out _ _).trans (hb1.mono (by simp; omega)))
    clear hb1
    go_wp2_with fail
    clear hc1
    refine (headPut_some (hdAt 4 (1 + b)) (.slice none 0 0) [] [] t _ (El.Reads.nil _) (by decide) (by decide) HT.out).mono ?_
    rintro e w2 ⟨rfl, hb2⟩
    have HB2 := Lib.hid (HB1.out.trans (hb2.mono HB1.out.size))
    clear hb2
    go_wp2_with fail
    refine (awake8_any _).mono ?_
    rintro e w3 ⟨rfl, hb3⟩
    have HB3 := Lib.hid (HB2.out.trans (hb3.mono HB2.out.size))
    clear hb3
    go_wp2
    go_ret
    exact ⟨rfl, HB3.out⟩
  · obtain ⟨s, t, hs, ht, hst⟩ := HM.out 5 (by decide)
    have HS := Lib.hid hs
    have HT := Lib.hid ht
    clear hs ht
    go_enter Try.func6, Try.ntmps6
    go_wp2_with fail
    refine (place_any v 16 _ b0 b1 (by decide) (by decide)).mono ?_
    rintro e w1 ⟨rfl, rfl⟩
    rw [HA.out]
    go_wp2_with fail
    refine (place_any x 16 _ c0 c1 (by decide) (by decide)).mono ?_
    rintro e w1 ⟨rfl, rfl⟩
    rw [HX.out]
    go_wp2_with fail
    refine (place_any how 8 _ a0 a1 (by decide) (by decide)).mono ?_
    rintro e w1 ⟨rfl, rfl⟩
    rw [HJ.out]
    go_wp2_with fail
    refine (headPut_some (hdAt 5 (1 + a)) (.slice none 0 0) [] [] s _ (El.Reads.nil _) (by decide) (by decide) HS.out).mono ?_
    rintro e w1 ⟨rfl, hb1⟩
    obtain ⟨hc1, -⟩ := bcell hb1
    have HB1 := Lib.hid ((HB.out _ _).trans (hb1.mono (by simp; omega)))
    clear hb1
    go_wp2_with fail
    clear hc1
    refine (headPut_some (hdAt 5 (1 + b)) (.slice none 0 0) [] [] t _ (El.Reads.nil _) (by decide) (by decide) HT.out).mono ?_
    rintro e w2 ⟨rfl, hb2⟩
    have HB2 := Lib.hid (HB1.out.trans (hb2.mono HB1.out.size))
    clear hb2
    go_wp2_with fail
    refine (awake8_any _).mono ?_
    rintro e w3 ⟨rfl, hb3⟩
    have HB3 := Lib.hid (HB2.out.trans (hb3.mono HB2.out.size))
    clear hb3
    go_wp2
    go_ret
    exact ⟨rfl, HB3.out⟩
  · obtain ⟨s, t, hs, ht, hst⟩ := HM.out 6 (by decide)
    have HS := Lib.hid hs
    have HT := Lib.hid ht
    clear hs ht
    go_enter Try.func6, Try.ntmps6
    go_wp2_with fail
    refine (place_any v 16 _ b0 b1 (by decide) (by decide)).mono ?_
    rintro e w1 ⟨rfl, rfl⟩
    rw [HA.out]
    go_wp2_with fail
    refine (place_any x 16 _ c0 c1 (by decide) (by decide)).mono ?_
    rintro e w1 ⟨rfl, rfl⟩
    rw [HX.out]
    go_wp2_with fail
    refine (place_any how 8 _ a0 a1 (by decide) (by decide)).mono ?_
    rintro e w1 ⟨rfl, rfl⟩
    rw [HJ.out]
    go_wp2_with fail
    refine (headPut_some (hdAt 6 (1 + a)) (.slice none 0 0) [] [] s _ (El.Reads.nil _) (by decide) (by decide) HS.out).mono ?_
    rintro e w1 ⟨rfl, hb1⟩
    obtain ⟨hc1, -⟩ := bcell hb1
    have HB1 := Lib.hid ((HB.out _ _).trans (hb1.mono (by simp; omega)))
    clear hb1
    go_wp2_with fail
    clear hc1
    refine (headPut_some (hdAt 6 (1 + b)) (.slice none 0 0) [] [] t _ (El.Reads.nil _) (by decide) (by decide) HT.out).mono ?_
    rintro e w2 ⟨rfl, hb2⟩
    have HB2 := Lib.hid (HB1.out.trans (hb2.mono HB1.out.size))
    clear hb2
    go_wp2_with fail
    refine (awake8_any _).mono ?_
    rintro e w3 ⟨rfl, hb3⟩
    have HB3 := Lib.hid (HB2.out.trans (hb3.mono HB2.out.size))
    clear hb3
    go_wp2
    go_ret
    exact ⟨rfl, HB3.out⟩
  · obtain ⟨s, t, hs, ht, hst⟩ := HM.out 7 (by decide)
    have HS := Lib.hid hs
    have HT := Lib.hid ht
    clear hs ht
    go_enter Try.func6, Try.ntmps6
    go_wp2_with fail
    refine (place_any v 16 _ b0 b1 (by decide) (by decide)).mono ?_
    rintro e w1 ⟨rfl, rfl⟩
    rw [HA.out]
    go_wp2_with fail
    refine (place_any x 16 _ c0 c1 (by decide) (by decide)).mono ?_
    rintro e w1 ⟨rfl, rfl⟩
    rw [HX.out]
    go_wp2_with fail
    refine (place_any how 8 _ a0 a1 (by decide) (by decide)).mono ?_
    rintro e w1 ⟨rfl, rfl⟩
    rw [HJ.out]
    go_wp2_with fail
    refine (headPut_some (hdAt 7 (1 + a)) (.slice none 0 0) [] [] s _ (El.Reads.nil _) (by decide) (by decide) HS.out).mono ?_
    rintro e w1 ⟨rfl, hb1⟩
    obtain ⟨hc1, -⟩ := bcell hb1
    have HB1 := Lib.hid ((HB.out _ _).trans (hb1.mono (by simp; omega)))
    clear hb1
    go_wp2_with fail
    clear hc1
    refine (headPut_some (hdAt 7 (1 + b)) (.slice none 0 0) [] [] t _ (El.Reads.nil _) (by decide) (by decide) HT.out).mono ?_
    rintro e w2 ⟨rfl, hb2⟩
    have HB2 := Lib.hid (HB1.out.trans (hb2.mono HB1.out.size))
    clear hb2
    go_wp2_with fail
    refine (awake8_any _).mono ?_
    rintro e w3 ⟨rfl, hb3⟩
    have HB3 := Lib.hid (HB2.out.trans (hb3.mono HB2.out.size))
    clear hb3
    go_wp2
    go_ret
    exact ⟨rfl, HB3.out⟩
end
end Go.Proofs.Ytjoplgdcpihmaaa
