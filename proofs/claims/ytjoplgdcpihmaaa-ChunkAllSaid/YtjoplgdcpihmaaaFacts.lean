/- Closed facts on the loaded program that the rows of all laws of this seat share. -/
import Derived.Test.YtjoplgdcpihmaaaRows
import Derived.WalkKit
import Derived.ProofKit
namespace Go.Proofs.Ytjoplgdcpihmaaa.Facts

/-! ### The program's head row, word by word -/
def w1 : List Char := [104, 97, 114, 110, 101, 115, 115].map Char.ofNat
def w2 : List Char := [49, 100, 52, 57, 102, 54, 53, 100, 56, 56, 100, 102, 99, 53, 53, 99, 57, 57, 54, 99, 57, 57, 54, 100, 52, 50, 48, 52, 50, 99, 49, 51, 53, 102, 55, 102, 98, 50, 98, 54, 56, 98, 57, 97, 50, 51, 102, 55, 54, 97, 101, 100, 49, 53, 50, 56, 48, 54, 50, 55, 101, 49, 53, 48].map Char.ofNat
def w3 : List Char := [99, 117, 116].map Char.ofNat
def w4 : List Char := [97, 116, 32, 98, 101, 103, 117, 105, 110, 97, 103, 101, 47, 98, 101, 103, 117, 105, 110, 97, 103, 101, 108, 97, 119, 48, 56, 46, 72, 101, 97, 100, 65, 108, 108, 32, 98, 101, 103, 117, 105, 110, 97, 103, 101, 47, 98, 101, 103, 117, 105, 110, 97, 103, 101, 108, 97, 119, 48, 56, 46, 72, 101, 97, 100, 66, 97, 99, 107, 32, 98, 101, 103, 117, 105, 110, 97, 103, 101, 47, 98, 101, 103, 117, 105, 110, 97, 103, 101, 108, 97, 119, 48, 56, 46, 72, 101, 97, 100, 69, 100, 103, 101, 115, 32, 98, 101, 103, 117, 105, 110, 97, 103, 101, 47, 98, 101, 103, 117, 105, 110, 97, 103, 101, 108, 97, 119, 48, 56, 46, 72, 101, 97, 100, 65, 112, 97, 114, 116, 32, 98, 101, 103, 117, 105, 110, 97, 103, 101, 47, 98, 101, 103, 117, 105, 110, 97, 103, 101, 108, 97, 119, 48, 54, 46, 84, 97, 98, 108, 101, 65, 108, 108, 32, 98, 101, 103, 117, 105, 110, 97, 103, 101, 47, 98, 101, 103, 117, 105, 110, 97, 103, 101, 108, 97, 119, 48, 54, 46, 84, 97, 98, 108, 101, 78, 117, 109, 98, 101, 114, 115, 32, 98, 101, 103, 117, 105, 110, 97, 103, 101, 47, 98, 101, 103, 117, 105, 110, 97, 103, 101, 108, 97, 119, 48, 54, 46, 84, 97, 98, 108, 101, 76, 105, 109, 105, 116, 115, 32, 98, 101, 103, 117, 105, 110, 97, 103, 101, 47, 98, 101, 103, 117, 105, 110, 97, 103, 101, 108, 97, 119, 48, 54, 46, 84, 97, 98, 108, 101, 69, 109, 112, 116, 121, 32, 98, 101, 103, 117, 105, 110, 97, 103, 101, 47, 98, 101, 103, 117, 105, 110, 97, 103, 101, 108, 97, 119, 48, 54, 46, 84, 97, 98, 108, 101, 65, 112, 97, 114, 116, 32, 98, 101, 103, 117, 105, 110, 97, 103, 101, 47, 98, 101, 103, 117, 105, 110, 97, 103, 101, 108, 97, 119, 49, 51, 46, 67, 104, 117, 110, 107, 65, 108, 108, 32, 98, 101, 103, 117, 105, 110, 97, 103, 101, 47, 98, 101, 103, 117, 105, 110, 97, 103, 101, 108, 97, 119, 49, 51, 46, 67, 104, 117, 110, 107, 66, 97, 99, 107, 32, 98, 101, 103, 117, 105, 110, 97, 103, 101, 47, 98, 101, 103, 117, 105, 110, 97, 103, 101, 108, 97, 119, 49, 51, 46, 67, 104, 117, 110, 107, 83, 105, 122, 101, 115, 32, 98, 101, 103, 117, 105, 110, 97, 103, 101, 47, 98, 101, 103, 117, 105, 110, 97, 103, 101, 108, 97, 119, 49, 51, 46, 67, 104, 117, 110, 107, 65, 112, 97, 114, 116, 32, 98, 101, 103, 117, 105, 110, 97, 103, 101, 47, 98, 101, 103, 117, 105, 110, 97, 103, 101, 108, 97, 119, 49, 52, 46, 76, 111, 103, 82, 101, 102, 117, 115, 101, 115, 32, 98, 101, 103, 117, 105, 110, 97, 103, 101, 47, 98, 101, 103, 117, 105, 110, 97, 103, 101, 108, 97, 119, 49, 52, 46, 76, 111, 103, 70, 105, 108, 108, 115, 32, 98, 101, 103, 117, 105, 110, 97, 103, 101, 47, 98, 101, 103, 117, 105, 110, 97, 103, 101, 108, 97, 119, 49, 52, 46, 76, 111, 103, 65, 112, 112, 101, 110, 100, 115, 32, 98, 101, 103, 117, 105, 110, 97, 103, 101, 47, 98, 101, 103, 117, 105, 110, 97, 103, 101, 108, 97, 119, 49, 52, 46, 76, 111, 103, 80, 111, 119, 101, 114, 32, 98, 101, 103, 117, 105, 110, 97, 103, 101, 47, 98, 101, 103, 117, 105, 110, 97, 103, 101, 108, 97, 119, 49, 53, 46, 82, 111, 108, 108, 79, 116, 104, 101, 114, 115, 32, 98, 101, 103, 117, 105, 110, 97, 103, 101, 47, 98, 101, 103, 117, 105, 110, 97, 103, 101, 108, 97, 119, 49, 53, 46, 82, 111, 108, 108, 65, 103, 97, 105, 110, 32, 98, 101, 103, 117, 105, 110, 97, 103, 101, 47, 98, 101, 103, 117, 105, 110, 97, 103, 101, 108, 97, 119, 49, 53, 46, 82, 111, 108, 108, 84, 111, 114, 110, 32, 98, 101, 103, 117, 105, 110, 97, 103, 101, 47, 98, 101, 103, 117, 105, 110, 97, 103, 101, 108, 97, 119, 49, 53, 46, 82, 111, 108, 108, 69, 109, 112, 116, 121, 32, 98, 101, 103, 117, 105, 110, 97, 103, 101, 47, 98, 101, 103, 117, 105, 110, 97, 103, 101, 108, 97, 119, 49, 53, 46, 82, 111, 108, 108, 80, 114, 101, 102, 105, 120].map Char.ofNat
def io : List Char := w1 ++ Char.ofNat 32 :: (w2 ++ Char.ofNat 32 :: (w3 ++ Char.ofNat 32 :: w4))
def ioText : String := "harness 1d49f65d88dfc55c996c996d42042c135f7fb2b68b9a23f76aed15280627e150 cut at beguinage/beguinagelaw08.HeadAll beguinage/beguinagelaw08.HeadBack beguinage/beguinagelaw08.HeadEdges beguinage/beguinagelaw08.HeadApart beguinage/beguinagelaw06.TableAll beguinage/beguinagelaw06.TableNumbers beguinage/beguinagelaw06.TableLimits beguinage/beguinagelaw06.TableEmpty beguinage/beguinagelaw06.TableApart beguinage/beguinagelaw13.ChunkAll beguinage/beguinagelaw13.ChunkBack beguinage/beguinagelaw13.ChunkSizes beguinage/beguinagelaw13.ChunkApart beguinage/beguinagelaw14.LogRefuses beguinage/beguinagelaw14.LogFills beguinage/beguinagelaw14.LogAppends beguinage/beguinagelaw14.LogPower beguinage/beguinagelaw15.RollOthers beguinage/beguinagelaw15.RollAgain beguinage/beguinagelaw15.RollTorn beguinage/beguinagelaw15.RollEmpty beguinage/beguinagelaw15.RollPrefix"
theorem text_io : ioText = String.ofList io := by kernel_rfl
theorem tables_io : Try.progTables.initOrder = ioText := by
  delta Try.progTables ioText
  exact Eq.refl _
theorem checked_prog : Try.checked.prog = Try.prog := rfl
theorem prog_tables : Try.prog.toTables = Try.progTables := by
  delta Try.prog
  exact Eq.refl Try.progTables
theorem checked_tables : Try.checked.prog.toTables = Try.progTables := Eq.trans (congrArg Program.toTables checked_prog) prog_tables
theorem initOrder_io : Try.checked.prog.initOrder = ioText := by
  show Tables.initOrder (Program.toTables Try.checked.prog) = ioText
  rw [checked_tables]
  exact tables_io
theorem toList_io : Try.checked.prog.initOrder.toList = io := by rw [initOrder_io, text_io, String.toList_ofList]
theorem word (w r : List Char) (h : w.all (fun c => c != Char.ofNat 32) = true) : wordsSigns (w ++ Char.ofNat 32 :: r) = w :: wordsSigns r := by
  induction w with
  | nil => rfl
  | cons c w ih =>
    simp only [List.all_cons, Bool.and_eq_true, bne_iff_ne] at h
    have h2 := ih h.2
    rw [List.cons_append]
    generalize wordsSigns r = X at *
    conv => lhs; unfold wordsSigns
    split
    · rename_i e; simp at e
    · rename_i e
      simp only [List.cons.injEq] at e
      exact absurd e.1 h.1
    · rename_i c' r' _ e
      simp only [List.cons.injEq] at e
      obtain ⟨rfl, rfl⟩ := e
      rw [h2]
theorem words_io : wordsSigns Try.checked.prog.initOrder.toList = w1 :: w2 :: w3 :: wordsSigns w4 := by
  rw [toList_io]
  unfold io
  rw [word w1 _ (by kernel_rfl), word w2 _ (by kernel_rfl), word w3 _ (by kernel_rfl)]
theorem behind (r : List (List Char)) : behindMainWord (w1 :: w2 :: w3 :: r) = w3 :: r := by
  have h : ((w1 == "harness".toList || w1 == "ownmain".toList) && isSumSigns w2) = true := by kernel_rfl
  unfold behindMainWord
  show (if ((w1 == "harness".toList || w1 == "ownmain".toList) && isSumSigns w2) = true then w3 :: r else w1 :: w2 :: w3 :: r) = w3 :: r
  rw [if_pos h]
theorem strip (r : List (List Char)) : stripLifts liftWords (w3 :: r) = ([], w3 :: r) := by
  have h : liftWords.all (fun o => !(w3 == o.toList)) = true := by kernel_rfl
  revert h
  generalize liftWords = L
  intro h
  induction L with
  | nil => rfl
  | cons o os ih =>
    simp only [List.all_cons, Bool.and_eq_true] at h
    unfold stripLifts
    rw [if_neg (by have := h.1; simpa using this)]
    exact ih h.2
theorem headBehind : behindMainWord (wordsSigns Try.checked.prog.initOrder.toList) = w3 :: wordsSigns w4 := by rw [words_io, behind]
theorem laysLater : Try.checked.prog.laysLater = false := by kernel_rfl
theorem bearsReflect : Try.checked.prog.bearsReflect = false := by kernel_rfl
theorem doorFits : Try.checked.prog.doorFits [] = true := by kernel_rfl
theorem cut1 : (w3 == "gc".toList || w3 == "spec".toList) = false := by kernel_rfl
theorem cut2 : (w3 == "carried".toList) = false := by kernel_rfl
theorem cut3 : (some w3 == some "cut".toList) = true := by kernel_rfl
theorem cut4 : (w3 == "cut".toList) = true := by kernel_rfl
theorem cut5 : (some w3 == some "carried".toList) = false := by kernel_rfl
theorem mayEnter_of (P : Program) (r : List (List Char)) (h : behindMainWord (wordsSigns P.initOrder.toList) = w3 :: r) (h1 : P.laysLater = false) (h2 : P.bearsReflect = false) (h3 : P.doorFits [] = true) : P.mayEnter = true := by
  unfold Program.mayEnter
  rw [h]
  dsimp only
  rw [strip r]
  simp only [cut1, cut2, List.head?_cons, cut3, h1, h2, h3, List.contains_nil, Bool.false_and, Bool.not_false, Bool.or_true, Bool.and_true, Bool.or_false, Bool.and_self]
theorem headLifts_of (P : Program) (r : List (List Char)) (h : behindMainWord (wordsSigns P.initOrder.toList) = w3 :: r) : P.headLifts = [] := by
  unfold Program.headLifts
  rw [h, strip r]
  dsimp only
  split <;> rfl
theorem liftsFinal_of (P : Program) (r : List (List Char)) (h : behindMainWord (wordsSigns P.initOrder.toList) = w3 :: r) : P.liftsFinal = false := by
  unfold Program.liftsFinal
  rw [h, headLifts_of P r h]
  simp only [List.head?_cons, cut5, Bool.false_and, Bool.false_or, List.contains_nil]
theorem make_of (P : Program) (r : List (List Char)) (h : behindMainWord (wordsSigns P.initOrder.toList) = w3 :: r) : P.make = some .cut := by
  unfold Program.make
  rw [h, headLifts_of P r h]
  dsimp only
  rw [if_neg (by rw [cut1]; decide), if_pos (by rw [cut4]; rfl)]
theorem mayEnter : Try.checked.prog.mayEnter = true := mayEnter_of _ _ headBehind laysLater bearsReflect doorFits
theorem liftsFinal : Try.checked.prog.liftsFinal = false := liftsFinal_of _ _ headBehind
theorem make : Try.checked.prog.make = some .cut := make_of _ _ headBehind
theorem laidOut : laidOutB Try.checked.prog = true := by kernel_rfl
theorem mapsRowed : mapsRowed Try.checked.prog = true := by kernel_rfl
theorem stops : (Try.checked.prog.stops == []) = true := by kernel_rfl
theorem stopKnobs : (Try.checked.prog.stopKnobs == []) = true := by kernel_rfl
theorem plainKeys : Try.checked.prog.plainKeys = true := by kernel_rfl
theorem stopsHeard : Try.checked.prog.stopsHeard = true := by kernel_rfl
end Go.Proofs.Ytjoplgdcpihmaaa.Facts
