/- A head's bytes, but its sum (head.bytes). -/
import Derived.Test.YtjoplgdcpihmaaaHeadD
namespace Go.Proofs.Ytjoplgdcpihmaaa
open Go.RowKit

def numBytes (h : Hd) (n : Int) : List UInt8 :=
  [66, 71, 67, 72] ++ putB h.house 1 ++ putB h.gen 2 ++ putB h.life 3 ++ putB h.seq 6 ++ putB h.next 2 ++ putB h.clock 6 ++ putB h.sb 6 ++ putB h.sn 6 ++ putB n 1
def entBytes (c : Ent) : List UInt8 := putB c.k 1 ++ putB c.n 1 ++ putB c.p 2
def entsBytes (l : List Ent) : List UInt8 := l.flatMap entBytes
def padTo (n : Nat) (s : List UInt8) : List UInt8 := s ++ List.replicate (n - s.length) 0
def headBytes (h : Hd) (l : List Ent) : List UInt8 := padTo 252 (numBytes h l.length ++ entsBytes l)
theorem numBytes_length (h : Hd) (n : Int) : (numBytes h n).length = 37 := by
  unfold numBytes
  simp only [List.length_append, putB_length]; rfl
theorem entBytes_length (c : Ent) : (entBytes c).length = 4 := by
  unfold entBytes
  simp only [List.length_append, putB_length]; rfl
theorem entsBytes_length (l : List Ent) : (entsBytes l).length = 4 * l.length := by
  induction l with
  | nil => rfl
  | cons x l ih => rw [entsBytes, List.flatMap_cons, List.length_append, entBytes_length]; rw [entsBytes] at ih; rw [ih, List.length_cons]; omega
theorem entsBytes_snoc (l : List Ent) (k : Nat) (h : k < l.length) : entsBytes (l.take (k + 1)) = entsBytes (l.take k) ++ entBytes l[k] := by
  rw [List.take_succ_eq_append_getElem h]; unfold entsBytes; rw [List.flatMap_append, List.flatMap_singleton]
theorem putB_zero : putB 0 1 = [0] := by decide
theorem putB_len (v : Int) (n : Nat) (h : n ≤ 7) : (putB v n).length = n := by rw [putB_length]; omega

theorem heap_next (w : World) (a b : Obj) : ((w.alloc a).alloc b).heap[w.heap.size + 1]? = some b := by
  have := heap_alloc_new (w.alloc a) b
  simpa using this
theorem heap_first (w : World) (a b : Obj) : ((w.alloc a).alloc b).heap[w.heap.size]? = some a := by
  rw [Below.heap_alloc _ _ _ (by simp)]; exact heap_alloc_new w a

section
attribute [local go_sem] bs_size
set_option maxRecDepth 100000 in
set_option maxHeartbeats 4000000 in
theorem bytes_any (h : Hd) (v : Value) (l : List Ent) (w : World) (hr : EE.Reads w v l) (hl : l.length ≤ 24) :
    Calls Try.prog 87 #[.agg #[.int .i64 h.house, .int .i64 h.gen, .int .i64 h.life, .int .i64 h.seq, .int .i64 h.next, .int .i64 h.clock, .int .i64 h.sb, .int .i64 h.sn, v]] w
      fun e w' => e = .returned (.string (bs (headBytes h l))) ∧ Below w.heap.size w w' := by
  have hr' := hr
  obtain ⟨A, c, rfl, hc, -⟩ := hr'
  have HR := Lib.hid hr
  clear hr
  have HG : Hid (((w.alloc (.cells #[.int .i64 h.house, .int .i64 h.gen, .int .i64 h.life, .int .i64 h.seq, .int .i64 h.next, .int .i64 h.clock, .int .i64 h.sb, .int .i64 h.sn, .slice A l.length c] 24)).alloc (.cells #[.string (bs [66, 71, 67, 72])] 168)).heap[w.heap.size + 1]? = some (.cells #[.string (bs [66, 71, 67, 72])] 168 (0, 0))) := heap_next w _ _
  have HX : Hid (((w.alloc (.cells #[.int .i64 h.house, .int .i64 h.gen, .int .i64 h.life, .int .i64 h.seq, .int .i64 h.next, .int .i64 h.clock, .int .i64 h.sb, .int .i64 h.sn, .slice A l.length c] 24)).alloc (.cells #[.string (bs [66, 71, 67, 72])] 168)).heap[w.heap.size]? = some (.cells #[.int .i64 h.house, .int .i64 h.gen, .int .i64 h.life, .int .i64 h.seq, .int .i64 h.next, .int .i64 h.clock, .int .i64 h.sb, .int .i64 h.sn, .slice A l.length c] 24 (0, 0))) := heap_first w _ _
  have HB : Hid (Below w.heap.size w ((w.alloc (.cells #[.int .i64 h.house, .int .i64 h.gen, .int .i64 h.life, .int .i64 h.seq, .int .i64 h.next, .int .i64 h.clock, .int .i64 h.sb, .int .i64 h.sn, .slice A l.length c] 24)).alloc (.cells #[.string (bs [66, 71, 67, 72])] 168))) := ((Below.refl _ _).alloc (Nat.le_refl _) _).alloc (by simp) _
  have c0 : True := trivial
  have c1 : True := trivial
  have c2 : True := trivial
  have c3 : True := trivial
  have c4 : True := trivial
  have c5 : True := trivial
  have c6 : True := trivial
  have c7 : True := trivial
  have c8 : True := trivial
  go_enter Try.func87, Try.ntmps87
  go_wp2_with (go_at_call 121; refine (put_any _ _ _ _ _ HG.out (by simp only [List.length_append, putB_length, List.length_cons, List.length_nil]; omega)).mono ?_; rintro e w' ⟨rfl, hgr, hg1⟩; have hx1 := (hgr.block _ (lt_of_block HX.out) (by simp)).trans HX.out; have hb1 := HB.out.grown hgr (Nat.le_of_lt (lt_of_block HX.out)) (fun k e => by injection e; omega); clear HG HX HB c0 c1 c2 c3 c4 c5 c6 c7 c8; have HG := Lib.hid hg1; have HX := Lib.hid hx1; have HB := Lib.hid hb1; have c0 := cell_of_row _ _ 0 _ _ _ hx1; have c1 := cell_of_row _ _ 1 _ _ _ hx1; have c2 := cell_of_row _ _ 2 _ _ _ hx1; have c3 := cell_of_row _ _ 3 _ _ _ hx1; have c4 := cell_of_row _ _ 4 _ _ _ hx1; have c5 := cell_of_row _ _ 5 _ _ _ hx1; have c6 := cell_of_row _ _ 6 _ _ _ hx1; have c7 := cell_of_row _ _ 7 _ _ _ hx1; have c8 := cell_of_row _ _ 8 _ _ _ hx1; clear hg1 hx1 hb1 hgr)
  clear c0 c1 c2 c3 c4 c5 c6 c7 c8
  rename World => W
  have HG0 : Hid (W.heap[w.heap.size + 1]? = some (.cells #[.string (bs (numBytes h l.length))] 168 (0, 0))) := HG
  clear HG
  go_loopw [51] (fun i wr => ∃ k : Nat, k ≤ l.length ∧ i = .int .i64 k ∧ wr.heap[w.heap.size + 1]? = some (.cells #[.string (bs (numBytes h l.length ++ entsBytes (l.take k)))] 168 (0, 0)) ∧ Below w.heap.size w wr) (fun i _ => l.length - (intOf i).toNat)
  case atStart => exact ⟨0, by omega, rfl, by simpa [entsBytes] using HG0.out, HB.out⟩
  clear HG0 HX HB
  case round =>
    obtain ⟨k, hk, rfl, hg, hb⟩ := hrel
    have HG := Lib.hid hg
    have HB := Lib.hid hb
    clear hg hb
    by_cases hlt : k < l.length
    · have HS : Hid (numBytes h l.length ++ entsBytes (l.take (k + 1)) = (numBytes h l.length ++ entsBytes (l.take k)) ++ entBytes l[k]) := by
        unfold Hid; rw [entsBytes_snoc l k hlt, List.append_assoc]
      have HN : Hid ((numBytes h l.length ++ entsBytes (l.take k)).length = 37 + 4 * k) := by
        unfold Hid; rw [List.length_append, numBytes_length, entsBytes_length, List.length_take, Nat.min_eq_left hk]
      obtain ⟨b, o, c', hv, hbw, c0, c1, c2⟩ := EE_at (HR.out.below HB.out) k hlt
      simp only [Value.slice.injEq] at hv
      obtain ⟨rfl, -, rfl⟩ := hv
      generalize l[k] = x at *
      generalize numBytes h l.length ++ entsBytes (l.take k) = s at *
      have hgl := lt_of_block HG.out
      have HG1 : Hid ((wr.alloc (.cells #[.int .i64 x.k, .int .i64 x.n, .int .i64 x.p] 42)).heap[w.heap.size + 1]? = some (.cells #[.string (bs s)] 168 (0, 0))) := (Below.heap_alloc _ _ _ hgl).trans HG.out
      have HY : Hid ((wr.alloc (.cells #[.int .i64 x.k, .int .i64 x.n, .int .i64 x.p] 42)).heap[wr.heap.size]? = some (.cells #[.int .i64 x.k, .int .i64 x.n, .int .i64 x.p] 42 (0, 0))) := heap_alloc_new wr _
      go_wp2_with fail
      refine (put_any _ _ _ _ _ HG1.out (by rw [HN.out]; omega)).mono ?_
      rintro e w2 ⟨rfl, hgr, hg2⟩
      have hy := (hgr.block wr.heap.size (by simp) (by simp; omega)).trans HY.out
      have HG2 := Lib.hid hg2
      have HR1 := Lib.hid hgr
      have HY2 := Lib.hid hy
      have d1 := cell_of_row _ _ 1 _ _ _ hy
      clear hg2 hgr hy
      go_wp2_with fail
      refine (put_any _ _ _ _ _ HG2.out (by rw [List.length_append, HN.out, putB_length]; omega)).mono ?_
      rintro e w3 ⟨rfl, hgr, hg2⟩
      have hy := (hgr.block wr.heap.size (lt_of_block HY2.out) (by simp; omega)).trans HY2.out
      have HG3 := Lib.hid hg2
      have HR2 := Lib.hid hgr
      have HY3 := Lib.hid hy
      have d2 := cell_of_row _ _ 2 _ _ _ hy
      clear hg2 hgr hy d1
      go_wp2_with fail
      refine (put_any _ _ _ _ _ HG3.out (by rw [List.length_append, List.length_append, HN.out, putB_length, putB_length]; omega)).mono ?_
      rintro e w4 ⟨rfl, hgr, hg2⟩
      have HG4 := Lib.hid hg2
      have HR3 := Lib.hid hgr
      clear hg2 hgr d2
      have HBE : Hid (Below w.heap.size w w4) := by
        have h0 := HB.out.alloc HB.out.size (.cells #[.int .i64 x.k, .int .i64 x.n, .int .i64 x.p] 42)
        have h1 := h0.grown HR1.out h0.size (fun k e => by injection e; omega)
        have h2 := h1.grown HR2.out h1.size (fun k e => by injection e; omega)
        exact h2.grown HR3.out h2.size (fun k e => by injection e; omega)
      have HGE : Hid (w4.heap[w.heap.size + 1]? = some (.cells #[.string (bs (s ++ entBytes x))] 168 (0, 0))) := by
        have := HG4.out
        simp only [List.append_assoc] at this
        unfold Hid
        simp only [entBytes, List.append_assoc]
        exact this
      clear HG1 HG2 HG3 HG4 HR1 HR2 HR3 HY HY2 HY3 c0 c1 c2
      go_wp2
      go_roundw
      case rel => exact ⟨k + 1, by omega, by go_num, by rw [HS.out]; exact HGE.out, HBE.out⟩
      case measure => simp only [intOf]; omega
    · have HK : Hid (numBytes h l.length ++ entsBytes (l.take k) = numBytes h l.length ++ entsBytes l) := by
        unfold Hid; rw [List.take_of_length_le (by omega)]
      have HN : Hid ((numBytes h l.length ++ entsBytes l).length = 37 + 4 * l.length) := by
        unfold Hid; rw [List.length_append, numBytes_length, entsBytes_length]
      have HP : Hid (headBytes h l = padTo 252 (numBytes h l.length ++ entsBytes l)) := rfl
      rw [HK.out] at HG
      generalize numBytes h l.length ++ entsBytes l = s at *
      go_wp2
      go_loopg [] (252 - s.length) (fun m wr => ∃ j : Nat, m + j = 252 - s.length ∧ wr.heap[w.heap.size + 1]? = some (.cells #[.string (bs (s ++ List.replicate j 0))] 168 (0, 0)) ∧ Below w.heap.size w wr)
      case atStart => exact ⟨0, by omega, by simpa using HG.out, HB.out⟩
      clear HG HB
      case round =>
        obtain ⟨j, hm, hg, hb⟩ := hrel
        have HG := Lib.hid hg
        have HB := Lib.hid hb
        have d0 := cell_of_one hg
        have hsl : (s ++ List.replicate j 0).length = 37 + 4 * l.length + j := by rw [List.length_append, HN.out, List.length_replicate]
        have hsz : (bs (s ++ List.replicate j 0)).size = 37 + 4 * l.length + j := by rw [bs_size, hsl]
        have HSL := Lib.hid hsl
        have HSN := Lib.hid (show s.length = 37 + 4 * l.length from HN.out)
        clear hg hb hsl
        by_cases hj : 37 + 4 * l.length + j < 252
        · go_wp2_with (go_at_call 121; refine (put_any _ _ _ _ _ HG.out (by rw [HSL.out]; omega)).mono ?_; rintro e w4 ⟨rfl, hgr, hg2⟩; have HG2 := Lib.hid hg2; have HGR := Lib.hid hgr; clear hg2 hgr)
          go_roundg (gk - 1)
          case measure => have := HSN.out; omega
          case rel =>
            have h2 := HG2.out
            rw [putB_zero, List.append_assoc, show List.replicate j (0 : UInt8) ++ [0] = List.replicate (j + 1) 0 from (List.replicate_succ' ..).symm] at h2
            exact ⟨j + 1, by have := HSN.out; omega, h2, HB.out.grown HGR.out HB.out.size (fun k e => by injection e; omega)⟩
        · have hrep : Hid (s ++ List.replicate j 0 = headBytes h l) := by
            unfold Hid; rw [HP.out]; unfold padTo; congr 2; have := HSN.out; omega
          go_wp2
          go_ret
          exact ⟨ret_str hrep.out, HB.out⟩
end
end Go.Proofs.Ytjoplgdcpihmaaa
