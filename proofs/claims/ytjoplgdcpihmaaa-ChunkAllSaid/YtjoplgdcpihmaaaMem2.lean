/- Slices in memory: append of a whole slice that is read. -/
import Derived.Test.YtjoplgdcpihmaaaMem
import Derived.Laws.AppendOwnNone
namespace Go.Proofs.Ytjoplgdcpihmaaa
open Go.RowKit
namespace El
variable {α : Type}
section
variable {ops : Array Oper} {rest : List Oper} {o : Oper} {a : Act} {Q : Exit → Act → World → Prop}
set_option maxRecDepth 100000 in
/-- append(v, xs...): xs reads as the list m. -/
theorem app_all (E : El α) {w0 W : World} (hgd : o.guard = none) (s x : Operand) (ho : o.op = .call { callee := .builtin .append, args := #[s, x], argTypes := #[E.t, E.t] })
    (base : Nat) (v u : Value) (l m : List α) (hs : a.eval s = v) (hown : E.Own W base v l) (hx : a.eval x = u) (hr : E.Reads W u m) (hn : ∀ c, u = .slice none 0 c → c = 0)
    (hb : (l.length + m.length) * E.bytes ≤ 140737488355328) (hm : l.length + m.length ≤ 9223372036854775807) (hbase : base ≤ W.heap.size) (hB : Below base w0 W)
    (h : ∀ v' w', E.Own w' base v' (l ++ m) → Below base w0 w' → W.grownBy w' v.ownBlock → wpList Try.prog ops Q rest (a.put o.dst v') w') :
    wpList Try.prog ops Q (o :: rest) a W := by
  obtain ⟨i0, hi, hzz⟩ := Option.map_eq_some_iff.1 E.hinfo
  simp only [Prod.mk.injEq] at hzz
  obtain ⟨hz0, hz1, hz2⟩ := hzz
  obtain ⟨A, c, rfl, hc, hcell⟩ := hr
  cases A with
  | none =>
    have h0 : m.length = 0 := by
      rcases Nat.eq_zero_or_pos m.length with h0 | h0
      · exact h0
      · obtain ⟨b, o, e, _⟩ := hcell h0; cases e
    have hm0 : m = [] := List.eq_nil_of_length_eq_zero h0
    subst hm0
    obtain rfl : c = 0 := hn c rfl
    refine wpList_append_own_none hgd s x E.t ho base E.e i0 E.size E.ht hi v l.length (E.cells l) hs hown hx ?_
    exact h v W (by rw [List.append_nil]; exact hown) hB ⟨rfl, rfl, rfl, Nat.le_refl _, fun _ _ _ => rfl⟩
  | some ad =>
    refine wpList_append_own_at W hgd s x E.t ho base E.e i0 E.z E.size E.bytes E.ht hi hz0 hz1 hz2 E.hz E.pos v l.length (E.cells l) hs hown ad m.length c (E.cells m) hx
      (E.cells_length m) (fun j u hu => ?_) (fun u hu => E.cells_one m u hu) (by simp only [maxLen]; omega) hb hbase ?_
    · have h0 : 0 < m.length := by
        have := (List.getElem?_eq_some_iff.1 hu).1
        rw [E.cells_length] at this
        rcases Nat.eq_zero_or_pos m.length with h0 | h0
        · rw [h0] at this; omega
        · exact h0
      obtain ⟨b, o, e, _, hc2⟩ := hcell h0
      injection e with e
      subst e
      rw [addr_add]; exact hc2 j u hu
    · intro v1 w1 hown1 hg _ _
      refine h v1 w1 ?_ (hB.grown hg hbase fun k hk => (Own.lt hown k hk).1) hg
      show w1.ownsRow base E.e E.size v1 (l ++ m).length (E.cells (l ++ m))
      rw [E.cells_append, List.length_append]
      exact hown1
end
end El
end Go.Proofs.Ytjoplgdcpihmaaa
