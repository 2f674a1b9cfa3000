/- Arguments in memory: houses, bounds. -/
import Derived.Test.YtjoplgdcpihmaaaOpen2
import Derived.Test.YtjoplgdcpihmaaaLimA
namespace Go.Proofs.Ytjoplgdcpihmaaa
open Go.RowKit Go.ChangeShapes Go.WideShapes Go.Deep Go.Joins
section
variable {H : Type} {enc : TypeId × Value → H} {w : World}
set_option maxRecDepth 100000 in
theorem open_lim {n : Nat} {cs : List Value} {y : DataW H × List MemPlace} (h : DataW.trod enc Try.prog w 0 (fun _ => true) true n 48 cs = some y) : ∃ x : Lim, cs = [.int .i64 x.sg, .int .i64 x.hb, .int .i64 x.sb, .int .i64 x.hn, .int .i64 x.sn, .int .i64 x.gr, .int .i64 x.bu] := by
  obtain ⟨xs, n', _, -, hl, hxl, hg⟩ := DataW.trod_struct Try.underlying48 h
  have hl3 : cs.length = 7 := hl.trans (by kernel_rfl)
  have hx3 : xs.length = 7 := hxl
  match cs, hl3 with
  | [c0, c1, c2, c3, c4, c5, c6], _ =>
    obtain ⟨k0, rfl, -⟩ := one_int (hg 0 _ rfl) rfl (by omega)
    obtain ⟨k1, rfl, -⟩ := one_int (hg 1 _ rfl) rfl (by omega)
    obtain ⟨k2, rfl, -⟩ := one_int (hg 2 _ rfl) rfl (by omega)
    obtain ⟨k3, rfl, -⟩ := one_int (hg 3 _ rfl) rfl (by omega)
    obtain ⟨k4, rfl, -⟩ := one_int (hg 4 _ rfl) rfl (by omega)
    obtain ⟨k5, rfl, -⟩ := one_int (hg 5 _ rfl) rfl (by omega)
    obtain ⟨k6, rfl, -⟩ := one_int (hg 6 _ rfl) rfl (by omega)
    exact ⟨⟨k0, k1, k2, k3, k4, k5, k6⟩, rfl⟩
set_option maxRecDepth 100000 in
theorem open_limit {r : Reach} {b0 : Nat} {v : Value} {d : DataW H} {p : List MemPlace} (hv : Value.okWide Try.prog w r b0 48 v) (h : DataW.Trod enc Try.prog w 0 (fun _ => true) true 48 v d p) : ∃ x : Lim, v = limV x := by
  obtain ⟨⟨cs⟩, rfl, -⟩ := okWide_struct Try.underlying48 hv
  obtain ⟨fuel, hf⟩ := h
  obtain ⟨x, hx⟩ := open_lim hf
  have hx : cs = [.int .i64 x.sg, .int .i64 x.hb, .int .i64 x.sb, .int .i64 x.hn, .int .i64 x.sn, .int .i64 x.gr, .int .i64 x.bu] := hx
  exact ⟨x, by rw [hx]; rfl⟩
theorem nil_of {u : Value} {l : List Int} (hr : EI.Reads w u l) (hn : NilOk u) : ∃ A c, u = .slice A l.length c ∧ (A = none → c = 0) := by
  obtain ⟨A, c, rfl, hc, h⟩ := hr
  refine ⟨A, c, rfl, ?_⟩
  rintro rfl
  rcases Nat.eq_zero_or_pos l.length with h0 | h0
  · rw [h0] at hn; exact hn c rfl
  · obtain ⟨b, o, e, -⟩ := h h0; cases e
set_option maxRecDepth 100000 in
theorem open_house {n : Nat} {cs : List Value} {y : DataW H × List MemPlace} (h : DataW.trod enc Try.prog w 0 (fun _ => true) true n 61 cs = some y) :
    ∃ x : HM, cs = EH.enc x ∧ EI.Reads w (.slice x.A x.d.segs.length x.c) x.d.segs ∧ (x.A = none → x.c = 0) := by
  obtain ⟨xs, n', _, -, hl, hxl, hg⟩ := DataW.trod_struct Try.underlying61 h
  have hl3 : cs.length = 10 := hl.trans (by kernel_rfl)
  have hx3 : xs.length = 4 := hxl
  match cs, hl3 with
  | [c0, c1, c2, c3, c4, c5, c6, c7, c8, c9], _ =>
    obtain ⟨k0, rfl, -⟩ := one_int (hg 0 _ rfl) rfl (by omega)
    obtain ⟨k1, rfl, -⟩ := one_int (hg 1 _ rfl) rfl (by omega)
    have h2 := hg 2 _ rfl
    rw [show Try.prog.cellsOf _ = 7 from (by kernel_rfl), List.getElem?_eq_getElem (show 2 < xs.length by omega)] at h2
    obtain ⟨x, hx⟩ := open_lim h2
    obtain ⟨y, hy⟩ := one_field (c := c9) (hg 3 _ rfl) (by kernel_rfl) rfl (by omega)
    obtain ⟨l, hr, hn, -, -⟩ := El.open_ofP EI inI 0 (by kernel_rfl) (fun n cs y h => by
      obtain ⟨k, e, hk⟩ := open_int1 h
      exact ⟨k, e, hk⟩) hy
    obtain ⟨A, c, rfl, hA⟩ := nil_of hr hn
    refine ⟨⟨⟨k0, k1, x, l⟩, A, c⟩, ?_, hr, hA⟩
    have hx : [c2, c3, c4, c5, c6, c7, c8] = [.int .i64 x.sg, .int .i64 x.hb, .int .i64 x.sb, .int .i64 x.hn, .int .i64 x.sn, .int .i64 x.gr, .int .i64 x.bu] := hx
    simp only [List.cons.injEq, and_true] at hx
    obtain ⟨rfl, rfl, rfl, rfl, rfl, rfl, rfl⟩ := hx
    rfl
set_option maxRecDepth 100000 in
theorem open_houses {r : Reach} {b0 : Nat} {v : Value} {d : DataW H} {p : List MemPlace} (hv : Value.okWide Try.prog w r b0 46 v) (h : DataW.Trod enc Try.prog w 0 (fun _ => true) true 46 v d p) :
    ∃ l : List HM, HReads w v l ∧ NilOk v ∧ ∀ x ∈ l, x.A = none → x.c = 0 := by
  obtain ⟨a, len, cap, rfl⟩ := okWide_slice Try.underlying46 hv
  obtain ⟨fuel, hf⟩ := h
  obtain ⟨l, h1, h2, h3, -⟩ := El.open_ofP EH (fun x => EI.Reads w (.slice x.A x.d.segs.length x.c) x.d.segs ∧ (x.A = none → x.c = 0)) ⟨hd0, none, 0⟩ (by kernel_rfl) (fun n cs y h => open_house h) hf
  exact ⟨l, ⟨h1, fun x hx => (h3 x hx).1⟩, h2, fun x hx => (h3 x hx).2⟩
end
end Go.Proofs.Ytjoplgdcpihmaaa
