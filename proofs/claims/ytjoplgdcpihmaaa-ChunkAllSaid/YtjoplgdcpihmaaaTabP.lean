/- The law TableEmpty: its plain facts. -/
import Derived.Test.YtjoplgdcpihmaaaTabN
import Derived.Test.YtjoplgdcpihmaaaHeadL
namespace Go.Proofs.Ytjoplgdcpihmaaa
open Go.RowKit
/-- A house that is none, of generation g. -/
def gH (g : Int) : HM := ⟨⟨0, g, ⟨0, 0, 0, 0, 0, 0, 0⟩, []⟩, none, 0⟩
/-- The first k generations are set. -/
def gList (k : Nat) : List HM := (List.range 16).map fun i => gH (if i < k then 65535 - (i : Int) else 0)
theorem gList_len (k : Nat) : (gList k).length = 16 := by simp [gList]
theorem gList_zero : gList 0 = List.replicate 16 ⟨hd0, none, 0⟩ := by
  rfl
theorem gList_at (k i : Nat) (h : i < 16) : (gList k)[i]? = some (gH (if i < k then 65535 - (i : Int) else 0)) := by
  unfold gList
  rw [List.getElem?_map, List.getElem?_range h]; rfl
theorem gList_succ (k : Nat) (h : k < 16) : gList (k + 1) = (gList k).set k (gH (65535 - (k : Int))) := by
  apply List.ext_getElem?
  intro i
  rw [List.getElem?_set]
  by_cases hik : k = i
  · subst hik
    rw [if_pos rfl, if_pos (by rw [gList_len]; exact h), gList_at _ _ h, if_pos (by omega)]
  · rw [if_neg hik]
    rcases Nat.lt_or_ge i 16 with hi | hi
    · rw [gList_at _ _ hi, gList_at _ _ hi]
      by_cases h3 : i < k
      · rw [if_pos (by omega), if_pos h3]
      · rw [if_neg (by omega), if_neg h3]
    · rw [List.getElem?_eq_none (by rw [gList_len]; exact hi), List.getElem?_eq_none (by rw [gList_len]; exact hi)]
theorem gList_ok : tableB 65536 ((gList 16).map (·.d)) = true := by decide +kernel
theorem gList_reads {W : World} {v : Value} {k : Nat} (h : EH.Reads W v (gList k)) : HReads W v (gList k) := ⟨h, fun x hx => by
  unfold gList at hx
  obtain ⟨i, -, rfl⟩ := List.mem_map.1 hx
  exact El.Reads.nil _⟩
end Go.Proofs.Ytjoplgdcpihmaaa
