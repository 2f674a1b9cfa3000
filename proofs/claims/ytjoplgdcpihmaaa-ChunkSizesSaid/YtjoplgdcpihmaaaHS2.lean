/- A row of houses that the call has made: a whole house stored; what stands behind an append. -/
import Derived.Test.YtjoplgdcpihmaaaHSt
namespace Go.Proofs.Ytjoplgdcpihmaaa
open Go.RowKit
theorem grown_trans {W W1 W2 : World} {r : Option Nat} (h : W.grownBy W1 r) (g : W1.grownBy W2 r) : W.grownBy W2 r :=
  ⟨g.os.trans h.os, g.tape.trans h.tape, g.output.trans h.output, Nat.le_trans h.size g.size, fun k hk hne => (g.block k (Nat.lt_of_lt_of_le hk h.size) hne).trans (h.block k hk hne)⟩
theorem grown_same (W : World) (r : Option Nat) : W.grownBy W r := ⟨rfl, rfl, rfl, Nat.le_refl _, fun _ _ _ => rfl⟩
theorem grown_setc {W W1 : World} {b : Nat} (h : W.grownBy W1 (some b)) (o : Nat) (u : Value) : W.grownBy (W1.setCell ⟨b, o, none⟩ u) (some b) := grown_trans h (grown_cell W1 ⟨b, o, none⟩ u)
namespace HSt
variable {W W' : World} {base : Nat} {v : Value} {l : List HM}
theorem own_after {lb c : Nat} (h : HSt W base (.slice (some ⟨lb, 0, none⟩) l.length c) l) (i : Nat) (x : HM) (hi : l[i]? = some x) (hg : W.grownBy W' (Value.slice x.A x.d.segs.length x.c).ownBlock) : EH.Own W' base (.slice (some ⟨lb, 0, none⟩) l.length c) l := h.own.kept hg (by
  refine .inr fun e => ?_
  rw [own_block_of, own_block_of] at e
  obtain ⟨a, ha, e2⟩ := Option.map_eq_some_iff.1 e.symm
  exact h.off x (List.mem_of_getElem? hi) a ha (by rw [e2]; rfl))
theorem seg_block {x : HM} (h : HSt W base v l) (hx : x ∈ l) {a : Addr} (hA : x.A = some a) : base ≤ a.block ∧ a.block < W.heap.size := (h.segs x hx).lt a.block (by rw [own_block_of, hA]; rfl)
/-- A whole house is stored, of no segments. -/
theorem put {lb c : Nat} (h : HSt W base (.slice (some ⟨lb, 0, none⟩) l.length c) l) (i : Nat) (x y : HM) (hi : l[i]? = some x) (hy : y.d.segs = [] ∧ y.A = none ∧ y.c = 0) :
    HSt ((((((((((W.setCell ⟨lb, i * 10, none⟩ (.int .i64 y.d.st)).setCell ⟨lb, i * 10 + 1, none⟩ (.int .i64 y.d.gn)).setCell ⟨lb, i * 10 + 2, none⟩ (.int .i64 y.d.x.sg)).setCell ⟨lb, i * 10 + 3, none⟩ (.int .i64 y.d.x.hb)).setCell ⟨lb, i * 10 + 4, none⟩ (.int .i64 y.d.x.sb)).setCell ⟨lb, i * 10 + 5, none⟩ (.int .i64 y.d.x.hn)).setCell ⟨lb, i * 10 + 6, none⟩ (.int .i64 y.d.x.sn)).setCell ⟨lb, i * 10 + 7, none⟩ (.int .i64 y.d.x.gr)).setCell ⟨lb, i * 10 + 8, none⟩ (.int .i64 y.d.x.bu)).setCell ⟨lb, i * 10 + 9, none⟩ (.slice y.A y.d.segs.length y.c)) base (.slice (some ⟨lb, 0, none⟩) l.length c) (l.set i y) := by
  have hO := own_put h.own i x y hi
  rw [Nat.add_zero] at hO
  have hG : W.grownBy ((((((((((W.setCell ⟨lb, i * 10, none⟩ (.int .i64 y.d.st)).setCell ⟨lb, i * 10 + 1, none⟩ (.int .i64 y.d.gn)).setCell ⟨lb, i * 10 + 2, none⟩ (.int .i64 y.d.x.sg)).setCell ⟨lb, i * 10 + 3, none⟩ (.int .i64 y.d.x.hb)).setCell ⟨lb, i * 10 + 4, none⟩ (.int .i64 y.d.x.sb)).setCell ⟨lb, i * 10 + 5, none⟩ (.int .i64 y.d.x.hn)).setCell ⟨lb, i * 10 + 6, none⟩ (.int .i64 y.d.x.sn)).setCell ⟨lb, i * 10 + 7, none⟩ (.int .i64 y.d.x.gr)).setCell ⟨lb, i * 10 + 8, none⟩ (.int .i64 y.d.x.bu)).setCell ⟨lb, i * 10 + 9, none⟩ (.slice y.A y.d.segs.length y.c)) (some lb) := grown_setc (grown_setc (grown_setc (grown_setc (grown_setc (grown_setc (grown_setc (grown_setc (grown_setc (grown_setc (grown_same _ _) _ _) _ _) _ _) _ _) _ _) _ _) _ _) _ _) _ _) _ _
  refine ⟨hO, fun z hz => ?_, fun z hz a e => ?_, set_apart h.apart i _ fun j z a b _ _ _ ha => ?_⟩
  · rcases List.mem_or_eq_of_mem_set hz with hz | rfl
    · refine (h.segs z hz).kept hG ?_
      rw [own_block_of]
      cases hA : z.A with
      | none => exact .inl rfl
      | some a => exact .inr (h.off z hz a hA)
    · obtain ⟨h1, h2, h3⟩ := hy
      rw [h1, h2, h3]; exact El.Own.nil _ _
  · rcases List.mem_or_eq_of_mem_set hz with hz | rfl
    · exact h.off z hz a e
    · rw [hy.2.1] at e; cases e
  · rw [hy.2.1] at ha; cases ha
theorem cellAt {lb c : Nat} (h : HSt W base (.slice (some ⟨lb, 0, none⟩) l.length c) l) (i : Nat) (x : HM) (hi : l[i]? = some x) (j : Nat) (u : Value) (hu : (EH.enc x)[j]? = some u) : W.cell? ⟨lb, i * 10 + j, none⟩ = some u ∧ W.frozen? ⟨lb, i * 10 + j, none⟩ = false := h.own.atAddr rfl i x hi j u hu
end HSt
end Go.Proofs.Ytjoplgdcpihmaaa
