/- Houses in memory; the set of segments that were seen (a map that the call makes). -/
import Derived.Test.YtjoplgdcpihmaaaTabC
import Derived.Maps.Own
import Derived.Maps.OwnOps
import Derived.Maps.Views
namespace Go.Proofs.Ytjoplgdcpihmaaa
open Go.RowKit Go.Maps

/-- A house's data. -/
structure HD where
  st : Int
  gn : Int
  x : Lim
  segs : List Int
/-- A house in memory: its data, where its segments lie. -/
structure HM where
  d : HD
  A : Option Addr
  c : Nat
theorem info61 : (Try.prog.info? 61).map (fun i => (i.zero, i.size, i.bytes)) = some (some (.agg #[.int .i64 0, .int .i64 0, .int .i64 0, .int .i64 0, .int .i64 0, .int .i64 0, .int .i64 0, .int .i64 0, .int .i64 0, .slice none 0 0]), 10, 96) := by kernel_rfl
def encH (h : HM) : List Value := [.int .i64 h.d.st, .int .i64 h.d.gn, .int .i64 h.d.x.sg, .int .i64 h.d.x.hb, .int .i64 h.d.x.sb, .int .i64 h.d.x.hn, .int .i64 h.d.x.sn, .int .i64 h.d.x.gr, .int .i64 h.d.x.bu, .slice h.A h.d.segs.length h.c]
theorem encH_one (h : HM) (u : Value) (hu : u ∈ encH h) : u.oneCell' = true := by
  simp [encH] at hu
  rcases hu with rfl | rfl | rfl | rfl | rfl | rfl | rfl | rfl | rfl | rfl <;> rfl
/-- Houses, their segments by address alone. -/
def EH : El HM := { t := 46, e := 61, size := 10, bytes := 96, z := .agg #[.int .i64 0, .int .i64 0, .int .i64 0, .int .i64 0, .int .i64 0, .int .i64 0, .int .i64 0, .int .i64 0, .int .i64 0, .slice none 0 0], enc := encH, len := fun _ => rfl, one := encH_one, pos := by decide, ht := Try.underlying46, hinfo := info61, hz := rfl }
/-- The slice v reads as houses, their segments too. -/
def HReads (w : World) (v : Value) (l : List HM) : Prop := EH.Reads w v l ∧ ∀ h ∈ l, EI.Reads w (.slice h.A h.d.segs.length h.c) h.d.segs
theorem HReads.below {w w' : World} {v : Value} {l : List HM} (h : HReads w v l) (hb : Below w.heap.size w w') : HReads w' v l := ⟨h.1.below hb, fun x hx => (h.2 x hx).below hb⟩
theorem HReads.at {w : World} {v : Value} {l : List HM} (h : HReads w v l) (i : Nat) (x : HM) (hi : l[i]? = some x) : ∃ b o c, v = .slice (some ⟨b, o, none⟩) l.length c ∧ b < w.heap.size ∧ (∀ j u, (encH x)[j]? = some u → w.cell? ⟨b, o + (i * 10 + j), none⟩ = some u) ∧ EI.Reads w (.slice x.A x.d.segs.length x.c) x.d.segs := by
  obtain ⟨b, o, c, h1, h2, h3⟩ := h.1.at i x hi
  exact ⟨b, o, c, h1, h2, h3, h.2 x (List.mem_of_getElem? hi)⟩

/-! ### which tables may be -/
def hdB (many : Int) (d : HD) : Bool := houseB many d.st d.gn d.x d.segs
def flat (L : List HD) : List Int := L.flatMap (·.segs)
theorem flat_snoc (L : List HD) (k : Nat) (d : HD) (h : L[k]? = some d) : flat (L.take (k + 1)) = flat (L.take k) ++ d.segs := by
  obtain ⟨hk, rfl⟩ := List.getElem?_eq_some_iff.1 h
  unfold flat; rw [List.take_succ_eq_append_getElem hk, List.flatMap_append, List.flatMap_singleton]
/-- Houses may be, of so many segments. -/
def tableOk (many : Int) (L : List HD) : Prop := L.length = 16 ∧ (∀ d ∈ L, hdB many d = true) ∧ ∀ k < L.length, ∀ s ∈ (L[k]?.map (·.segs)).getD [], ¬ s ∈ flat (L.take k)
instance (many : Int) (L : List HD) : Decidable (tableOk many L) := by unfold tableOk; infer_instance
def tableB (many : Int) (L : List HD) : Bool := decide (tableOk many L)
theorem tableB_no {many : Int} {L : List HD} (h : ¬ tableOk many L) : tableB many L = false := decide_eq_false h
theorem tableB_yes {many : Int} {L : List HD} (h : tableOk many L) : tableB many L = true := decide_eq_true h
theorem lim_sg {x : Lim} (h : limB x = true) : 8 ≤ x.sg ∧ x.sg ≤ 40 := by
  unfold limB at h
  simp only [Bool.and_eq_true] at h
  exact inB_iff.1 h.1
theorem house_len {many : Int} {d : HD} (h : hdB many d = true) : d.segs.length ≤ 40 := by
  unfold hdB houseB at h
  simp only [Bool.and_eq_true] at h
  obtain ⟨_, _, h⟩ := h
  split at h
  · simp only [Bool.and_eq_true, beq_iff_eq] at h; omega
  · simp only [Bool.and_eq_true, beq_iff_eq] at h
    have := lim_sg h.2.2.1
    omega
theorem house_ris {many : Int} {d : HD} (h : hdB many d = true) : ∀ k, k < d.segs.length → okAt many d.segs k := by
  unfold hdB houseB at h
  simp only [Bool.and_eq_true] at h
  obtain ⟨_, _, h⟩ := h
  split at h
  · simp only [Bool.and_eq_true, beq_iff_eq] at h; intro k hk; omega
  · simp only [Bool.and_eq_true] at h
    exact risB_iff.1 h.1
theorem house_seg {many : Int} {d : HD} (h : hdB many d = true) (k : Nat) (hk : k < d.segs.length) : 0 ≤ nthI d.segs k ∧ nthI d.segs k < many :=
  ⟨ok_nonneg (k := d.segs.length) (house_ris h) k hk, (house_ris h k hk).2⟩
/-- Segments rise: none stands ahead of itself. -/
theorem ris_lt {many : Int} {l : List Int} (h : ∀ k, k < l.length → okAt many l k) (i j : Nat) (hij : i < j) (hj : j < l.length) : nthI l i < nthI l j := by
  induction j with
  | zero => omega
  | succ j ih =>
    have h1 := (h (j + 1) hj).1
    rw [lastOf_succ] at h1
    rcases Nat.lt_or_ge i j with h2 | h2
    · have := ih h2 (by omega); omega
    · obtain rfl : i = j := by omega
      exact h1
theorem ris_notin {many : Int} {l : List Int} (h : ∀ k, k < l.length → okAt many l k) (j : Nat) (hj : j < l.length) : ¬ nthI l j ∈ l.take j := by
  intro hm
  obtain ⟨i, hi, he⟩ := List.getElem_of_mem hm
  rw [List.length_take] at hi
  rw [List.getElem_take] at he
  have := ris_lt h i j (by omega) hj
  have h2 : nthI l i = l[i] := by simp only [nthI, List.getD_eq_getElem?_getD, List.getElem?_eq_getElem (show i < l.length by omega), Option.getD_some]
  omega

/-! ### the set -/
theorem isKey (a : Int) : WideAt.IsKeyLit (.int .i64 a) := by first | trivial | simp [WideAt.IsKeyLit]
def keys (S : List Int) : List Lit := S.map (Lit.int .i64)
/-- Block b is a map of bools: true at the numbers of S, and nothing else. -/
def Seen (w : World) (b : Nat) (S : List Int) : Prop := w.ownsMap (H := Unit) Try.prog 3 (plainElem Try.prog 4) b S.length (setOf (.lit (.bool true)) (keys S))
theorem seenLaw : Keyed Try.prog 3 := int_keyed Try.underlying3
theorem Seen.lt {w : World} {b : Nat} {S : List Int} (h : Seen w b S) : b < w.heap.size := World.ownsMap.lt h
theorem Seen.below {w w' : World} {b : Nat} {S : List Int} (h : Seen w b S) (hb : Below w.heap.size w w') : Seen w' b S := World.ownsMap.kept h (El.grown_of_below hb none) (by simp)
theorem Seen.alloc {w : World} {b : Nat} {S : List Int} (h : Seen w b S) (o : Obj) : Seen (w.alloc o) b S := World.ownsMap.alloc h o
theorem Seen.made (w : World) : Seen (w.alloc (.map #[] 0)) w.heap.size [] := World.ownsMap_made w _ _ _
theorem atKey_setOf (S : List Int) (s : Int) : (setOf (.lit (.bool true) : DataW Unit) (keys S)).atKey (.int .i64 s) (.lit (.bool false)) = .lit (.bool (decide (s ∈ S))) := by
  rw [← List.reverse_reverse S]
  generalize S.reverse = T
  induction T with
  | nil => rfl
  | cons x T ih =>
    rw [List.reverse_cons]
    generalize T.reverse = S at *
    unfold keys at ih ⊢
    rw [List.map_append, List.map_cons, List.map_nil, setOf_snoc]
    by_cases hx : s = x
    · subst hx
      rw [atKey_put_same (tidy_setOf _ _ (by intro y hy; simp only [List.mem_map] at hy; obtain ⟨z, -, rfl⟩ := hy; exact isKey z)).isMap (isKey s)]
      simp
    · rw [atKey_put_other (by intro e; injection e with _ e; exact hx e), ih]
      simp [hx]
theorem zero4 (w : World) : (zeroValue 4).run Try.prog w = .ok (.bool false) w := by kernel_rfl
theorem under138 : Try.prog.underlying 138 = some (.map 3 4) := Try.underlying138
theorem Seen.look {w : World} {b : Nat} {S : List Int} (h : Seen w b S) (s : Int) (hs : (Lit.int .i64 s).wf = true) : (Instr.lookup 138 (.map (some b)) (.int .i64 s) false).run Try.prog w = .ok (.bool (decide (s ∈ S))) w := by
  obtain ⟨v, ps, hrun, hv⟩ := World.ownsMap.lookup h seenLaw under138 (zero4 w) (plainElem_bool Try.underlying4 false) (keyOf_int_mk Try.underlying3 hs)
  rw [atKey_setOf] at hv
  rw [hrun]
  have : v = .bool (decide (s ∈ S)) := by
    unfold plainElem at hv
    simp only [Try.underlying4] at hv
    cases v <;> simp at hv
    rw [hv.1]
  rw [this]
end Go.Proofs.Ytjoplgdcpihmaaa
