/- Chunks: plain laws of their bytes. -/
import Derived.Test.YtjoplgdcpihmaaaHeadP
import Derived.Test.YtjoplgdcpihmaaaFlip
namespace Go.Proofs.Ytjoplgdcpihmaaa
open Go.RowKit
def allB (B : List (List UInt8)) : Bool := B.all fun b => b.length == 256
theorem allB_iff {B : List (List UInt8)} : allB B = true ↔ ∀ b ∈ B, b.length = 256 := by unfold allB; simp
theorem flat_len {B : List (List UInt8)} (h : ∀ b ∈ B, b.length = 256) : B.flatten.length = 256 * B.length := by
  induction B with
  | nil => rfl
  | cons b B ih =>
    rw [List.flatten_cons, List.length_append, h b (by simp), ih (fun x hx => h x (by simp [hx])), List.length_cons]; omega
/-- A chunk's bytes. -/
def chunkPut (h : Hd) (l : List Ent) (B : List (List UInt8)) : Option (List UInt8) :=
  if allB B = true then (headPut h l B.flatten).map (· ++ B.flatten) else none
def cutB (s : List UInt8) (n : Nat) : List (List UInt8) := (List.range n).map fun i => (s.drop (256 * (i + 1))).take 256
theorem cutB_succ (s : List UInt8) (n : Nat) : cutB s (n + 1) = cutB s n ++ [(s.drop (256 * (n + 1))).take 256] := by unfold cutB; rw [List.range_succ, List.map_append]; rfl
theorem cutB_len (s : List UInt8) (n : Nat) : (cutB s n).length = n := by simp [cutB]
/-- The chunk of bytes. -/
def chunkGet (s : List UInt8) : Option (Hd × List Ent × List (List UInt8)) :=
  match getHead s with
  | none => none
  | some (h, l, n) => if 256 * (1 + l.length) ≤ s.length ∧ sumOf (s.take 256) ((s.take (256 * (1 + l.length))).drop 256) = n then some (h, l, cutB s l.length) else none
theorem cutB_flat (p more : List UInt8) (hp : p.length = 256) (B : List (List UInt8)) (h : ∀ b ∈ B, b.length = 256) : cutB (p ++ (B.flatten ++ more)) B.length = B := by
  apply List.ext_getElem
  · rw [cutB_len]
  · intro i h1 h2
    simp only [cutB, List.getElem_map, List.getElem_range]
    have e : B = B.take i ++ (B[i] :: B.drop (i + 1)) := by rw [← List.drop_eq_getElem_cons h2, List.take_append_drop]
    have hl : (B.take i).flatten.length = 256 * i := by
      rw [flat_len (fun b hb => h b (List.mem_of_mem_take hb)), List.length_take, Nat.min_eq_left (by omega)]
    have hb := h B[i] (List.getElem_mem h2)
    have e2 : p ++ (B.flatten ++ more) = (p ++ (B.take i).flatten) ++ (B[i] ++ ((B.drop (i + 1)).flatten ++ more)) := by
      conv => lhs; rw [e]
      simp only [List.flatten_append, List.flatten_cons, List.append_assoc]
    rw [e2, List.drop_left' (by rw [List.length_append, hp, hl]; omega), List.take_left' hb]
theorem chunkPut_parts {h : Hd} {l : List Ent} {B : List (List UInt8)} {s : List UInt8} (hs : chunkPut h l B = some s) :
    ∃ p, headPut h l B.flatten = some p ∧ s = p ++ B.flatten ∧ p.length = 256 ∧ (∀ b ∈ B, b.length = 256) ∧ B.length = l.length ∧ checkB h l = true ∧ s.length = 256 * (1 + B.length) := by
  unfold chunkPut at hs
  split at hs
  · rename_i ha
    have hb := allB_iff.1 ha
    obtain ⟨p, hp, rfl⟩ := Option.map_eq_some_iff.1 hs
    have hl := (get_put hp []).2
    have h2 := hp
    unfold headPut at h2
    split at h2
    · rename_i hc
      have := flat_len hb
      exact ⟨p, hp, rfl, hl, hb, by omega, hc.1, by rw [List.length_append, hl, this]; omega⟩
    · cases h2
  · cases hs
/-- What is made is parsed, whatever stands behind. -/
theorem chunk_back {h : Hd} {l : List Ent} {B : List (List UInt8)} {s : List UInt8} (hs : chunkPut h l B = some s) (more : List UInt8) : chunkGet (s ++ more) = some (h, l, B) := by
  obtain ⟨p, hp, rfl, hpl, hb, hbl, -, -⟩ := chunkPut_parts hs
  have hf := flat_len hb
  have e : p ++ B.flatten ++ more = p ++ (B.flatten ++ more) := by rw [List.append_assoc]
  have hg := (get_put hp (B.flatten ++ more)).1
  unfold chunkGet
  rw [e, hg]
  have h1 : (p ++ (B.flatten ++ more)).take 256 = p := List.take_left' hpl
  have h2 : ((p ++ (B.flatten ++ more)).take (256 * (1 + l.length))).drop 256 = B.flatten := by
    rw [← List.append_assoc, List.take_left' (by rw [List.length_append, hpl, hf]; omega), List.drop_left' hpl]
  simp only [h1, h2]
  rw [if_pos ⟨by rw [List.length_append, List.length_append, hpl, hf]; omega, trivial⟩, ← hbl, cutB_flat p more hpl B hb]
theorem num_byte (b : List UInt8) (i : Nat) (h : i < b.length) : num b i 1 = vB (nth b i) := by
  unfold num getB
  rw [if_pos ⟨by omega, by omega, by omega, by omega⟩]
  have e : (b.drop i).take 1 = [nth b i] := by
    rw [List.drop_eq_getElem_cons h]
    simp only [nth, List.getD_eq_getElem?_getD, List.getElem?_eq_getElem h, Option.getD_some]
    rfl
  simp only [Int.toNat_natCast, Option.getD_some]
  rw [show ((1 : Int)).toNat = 1 from rfl, e]
  simp [leN]
theorem nth_append_left (a b : List UInt8) (i : Nat) (h : i < a.length) : nth (a ++ b) i = nth a i := by
  unfold nth; rw [List.getD_eq_getElem?_getD, List.getD_eq_getElem?_getD, List.getElem?_append_left h]
theorem head_cnt {h : Hd} {l : List Ent} (hc : checkB h l = true) : vB (nth (headBytes h l) 36) = l.length := by
  have h24 := checkB_len hc
  have hl := headBytes_length h l h24
  rw [← num_byte _ 36 (by omega)]
  have e : headBytes h l = numBytes h l.length ++ (entsBytes l ++ List.replicate (252 - (numBytes h l.length ++ entsBytes l).length) 0) := by
    unfold headBytes padTo; rw [List.append_assoc]
  have := (numsOf_bytes hc (entsBytes l ++ List.replicate (252 - (numBytes h l.length ++ entsBytes l).length) 0)).2
  rw [← e] at this
  exact this
theorem head_kind {h : Hd} {l : List Ent} (hc : checkB h l = true) (k : Nat) (hk : k < l.length) : nth (headBytes h l) (37 + 4 * k) ≠ 0 := by
  have h24 := checkB_len hc
  have hl := headBytes_length h l h24
  have he := (nums_true hc).2.2.2.2.2.2.2.2.2 l[k] (List.getElem_mem hk)
  have h1 := (ent_true he).1
  have e : headBytes h l = numBytes h l.length ++ entsBytes l ++ List.replicate (252 - (numBytes h l.length ++ entsBytes l).length) 0 := by unfold headBytes padTo; rfl
  have h2 := entAt_bytes hc (List.replicate (252 - (numBytes h l.length ++ entsBytes l).length) 0) k hk
  rw [← e] at h2
  have h3 := congrArg Ent.k h2
  simp only [entAt] at h3
  have h4 := num_byte (headBytes h l) (37 + 4 * k) (by omega)
  rw [show ((37 + 4 * k : Nat) : Int) = 37 + 4 * (k : Int) by omega, h3] at h4
  intro h0
  rw [h0] at h4
  have : vB (0 : UInt8) = 0 := rfl
  omega
theorem head_pad {h : Hd} {l : List Ent} (h24 : l.length ≤ 24) (j : Nat) (hj : 37 + 4 * l.length ≤ j) (hj2 : j < 252) : nth (headBytes h l) j = 0 := by
  unfold headBytes padTo nth
  have hl : (numBytes h l.length ++ entsBytes l).length = 37 + 4 * l.length := by rw [List.length_append, numBytes_length, entsBytes_length]
  rw [List.getD_eq_getElem?_getD, List.getElem?_append_right (by omega), List.getElem?_replicate, hl, if_pos (by omega)]
  rfl
/-- Two heads' bytes that differ in one place at most have as many entries. -/
theorem heads_len {h h' : Hd} {l l' : List Ent} (hc : checkB h l = true) (hc' : checkB h' l' = true) (q : Nat) (he : ∀ j : Nat, j < 252 → j ≠ q → nth (headBytes h l) j = nth (headBytes h' l') j) : l.length = l'.length := by
  have h1 := checkB_len hc
  have h2 := checkB_len hc'
  have c1 := head_cnt hc
  have c2 := head_cnt hc'
  rcases Nat.lt_trichotomy l.length l'.length with h3 | h3 | h3
  · exfalso
    have e0 := head_pad (h := h) (l := l) h1 (37 + 4 * l.length) (Nat.le_refl _) (by omega)
    have e1 := head_kind hc' l.length h3
    by_cases hq : 36 = q
    · exact e1 (by rw [← he (37 + 4 * l.length) (by omega) (by omega)]; exact e0)
    · rw [he 36 (by decide) hq] at c1; omega
  · exact h3
  · exfalso
    have e0 := head_pad (h := h') (l := l') h2 (37 + 4 * l'.length) (Nat.le_refl _) (by omega)
    have e1 := head_kind hc l'.length h3
    by_cases hq : 36 = q
    · exact e1 (by rw [he (37 + 4 * l'.length) (by omega) (by omega)]; exact e0)
    · rw [he 36 (by decide) hq] at c1; omega
theorem getHead_parts {s : List UInt8} {h : Hd} {l : List Ent} {n : Int} (hg : getHead s = some (h, l, n)) : 256 ≤ s.length ∧ checkB h l = true ∧ headBytes h l = s.take 252 ∧ n = num (s.take 256) 252 4 := by
  unfold getHead at hg
  split at hg
  · cases hg
  · split at hg
    · rename_i h1 h2
      simp only [Option.some.injEq, Prod.mk.injEq] at hg
      obtain ⟨rfl, rfl, rfl⟩ := hg
      exact ⟨by omega, h2.1, h2.2, rfl⟩
    · cases hg
theorem getHead_mark {s : List UInt8} (h0 : nth s 0 ≠ 66) : getHead s = none := by
  cases hg : getHead s with
  | none => rfl
  | some r =>
    obtain ⟨h, l, n⟩ := r
    exfalso
    obtain ⟨h1, h2, h3, -⟩ := getHead_parts hg
    have e : nth (s.take 252) 0 = nth s 0 := nth_take _ _ _ (by decide)
    rw [← h3] at e
    apply h0
    rw [← e]
    unfold headBytes padTo numBytes
    simp only [List.append_assoc]
    rfl
theorem chunkGet_head {s : List UInt8} (h : getHead s = none) : chunkGet s = none := by unfold chunkGet; rw [h]
/-- A chunk whose head is there: it is none, if the sum is another one. -/
theorem chunk_sum {h : Hd} {l : List Ent} {B : List (List UInt8)} {s T : List UInt8} (hs : chunkPut h l B = some s) (hl : T.length = s.length) (hh : T.take 256 = s.take 256) (hne : crcOf (T.take 252 ++ T.drop 256) ≠ crcOf (s.take 252 ++ s.drop 256)) : chunkGet T = none := by
  obtain ⟨p, hp, rfl, hpl, hb, hbl, -, hsl⟩ := chunkPut_parts hs
  have hf := flat_len hb
  have hps : (p ++ B.flatten).take 256 = p := List.take_left' hpl
  rw [hps] at hh
  have hT : T = p ++ T.drop 256 := by rw [← hh, List.take_append_drop]
  have hg := (get_put hp (T.drop 256)).1
  rw [← hT] at hg
  unfold chunkGet
  rw [hg]
  simp only
  rw [if_neg]
  rintro ⟨-, h2⟩
  have e0 : T.take (256 * (1 + l.length)) = T := List.take_of_length_le (by rw [hl, hsl]; omega)
  rw [e0, hh, sumOf_of, sumOf_of] at h2
  apply hne
  have e1 : T.take 252 = p.take 252 := by
    have : (T.take 256).take 252 = T.take 252 := by rw [List.take_take]; rfl
    rw [← this, hh]
  have e2 : (p ++ B.flatten).take 252 = p.take 252 := by rw [List.take_append_of_le_length (by omega)]
  have e3 : (p ++ B.flatten).drop 256 = B.flatten := List.drop_left' hpl
  rw [e1, e2, e3]
  exact h2
/-- A chunk with a byte turned is none. -/
theorem chunk_flip {h : Hd} {l : List Ent} {B : List (List UInt8)} {s : List UInt8} (hs : chunkPut h l B = some s) (q : Nat) (hq : q < s.length) (c : UInt8) (hc : c ≠ nth s q) : chunkGet (s.set q c) = none := by
  obtain ⟨p, hp, he, hpl, hb, hbl, hck, hsl⟩ := chunkPut_parts hs
  have hf := flat_len hb
  rcases Nat.lt_or_ge q 256 with hlt | hge
  · cases hg : getHead (s.set q c) with
    | none => exact chunkGet_head hg
    | some r =>
      obtain ⟨h', l', n'⟩ := r
      obtain ⟨g1, g2, g3, g4⟩ := getHead_parts hg
      have hs0 := (get_put hp B.flatten).1
      rw [← he] at hs0
      obtain ⟨k1, k2, k3, k4⟩ := getHead_parts hs0
      have hll : l.length = l'.length := by
        refine heads_len k2 g2 q fun j hj hjq => ?_
        rw [k3, g3, nth_take _ _ _ hj, nth_take _ _ _ hj, nth_set _ _ _ _ hq, if_neg hjq]
      unfold chunkGet
      rw [hg]
      simp only
      rw [if_neg]
      rintro ⟨-, h2⟩
      have hbody : ((s.set q c).take (256 * (1 + l'.length))).drop 256 = B.flatten := by
        rw [List.take_of_length_le (by rw [List.length_set, hsl]; omega), List.drop_set_of_lt hlt, he, List.drop_left' hpl]
      rw [hbody, sumOf_of] at h2
      have hn : sumOf p B.flatten = crcOf (s.take 252 ++ B.flatten) := by
        rw [sumOf_of, he, List.take_append_of_le_length (by omega)]
      have e1 : ((s.set q c).take 256).take 252 = (s.set q c).take 252 := by rw [List.take_take]; rfl
      rw [e1] at h2
      rcases Nat.lt_or_ge q 252 with h252 | h252
      · have en : n' = sumOf p B.flatten := by
          rw [g4, k4]
          unfold num getB
          have e5 : ((s.set q c).take 256).drop 252 = (s.take 256).drop 252 := by rw [List.take_set, List.drop_set_of_lt h252]
          have e6 : ((s.set q c).take 256).length = (s.take 256).length := by rw [List.length_take, List.length_take, List.length_set]
          rw [e6, show ((252 : Int)).toNat = 252 from rfl, e5]
        rw [en, hn, List.take_set, ← List.set_append_left _ _ (by rw [List.length_take]; omega)] at h2
        exact crcOf_set (l := s.take 252 ++ B.flatten) (k := q) (c := c) (by rw [List.length_append, List.length_take]; omega) (by rw [nth_append_left _ _ _ (by rw [List.length_take]; omega), nth_take _ _ _ h252]; exact hc) h2
      · rw [List.take_set_of_le h252, ← hn, k4, g4] at h2
        have e7 : leN (((s.take 256).drop 252).take 4) = leN ((((s.set q c).take 256).drop 252).take 4) := by
          have hl1 : (s.take 256).length = 256 := by rw [List.length_take]; omega
          have hl2 : ((s.set q c).take 256).length = 256 := by rw [List.length_take, List.length_set]; omega
          unfold num getB at h2
          rw [if_pos ⟨by decide, by decide, by decide, by rw [hl1]; decide⟩, if_pos ⟨by decide, by decide, by decide, by rw [hl2]; decide⟩] at h2
          exact h2
        have e8 := congrArg (fun v => leB v 4) e7
        have hq4 : (((s.take 256).drop 252).take 4).length = 4 := by rw [List.length_take, List.length_drop, List.length_take]; omega
        have hq5 : ((((s.set q c).take 256).drop 252).take 4).length = 4 := by rw [List.length_take, List.length_drop, List.length_take, List.length_set]; omega
        have e9 := leB_leN (((s.take 256).drop 252).take 4)
        have e10 := leB_leN ((((s.set q c).take 256).drop 252).take 4)
        rw [hq4] at e9
        rw [hq5] at e10
        rw [e9, e10] at e8
        have e11 := congrArg (fun L => nth L (q - 252)) e8
        rw [nth_take _ _ _ (by omega), nth_take _ _ _ (by omega), nth_drop, nth_drop, nth_take _ _ _ (by omega), nth_take _ _ _ (by omega), show 252 + (q - 252) = q by omega, nth_set _ _ _ _ hq, if_pos rfl] at e11
        exact hc e11.symm
  · refine chunk_sum hs (by rw [List.length_set]) (by rw [List.take_set_of_le hge]) ?_
    rw [List.take_set_of_le (by omega)]
    have e : (s.set q c).drop 256 = (s.drop 256).set (q - 256) c := by rw [List.drop_set]; rw [if_neg (by omega)]
    rw [e, ← show (s.take 252 ++ s.drop 256).set (252 + (q - 256)) c = s.take 252 ++ (s.drop 256).set (q - 256) c from by
      rw [List.set_append_right _ _ (by rw [List.length_take]; omega), List.length_take, show 252 + (q - 256) - min 252 s.length = q - 256 by omega]]
    refine crcOf_set (by rw [List.length_append, List.length_take, List.length_drop]; omega) ?_
    have e2 : nth (s.take 252 ++ s.drop 256) (252 + (q - 256)) = nth s q := by
      unfold nth
      rw [List.getD_eq_getElem?_getD, List.getD_eq_getElem?_getD, List.getElem?_append_right (by rw [List.length_take]; omega), List.length_take, List.getElem?_drop, show 256 + (252 + (q - 256) - min 252 s.length) = q by omega]
    rw [e2]; exact hc
/-- A chunk that lost its end is none. -/
theorem chunk_lost {h : Hd} {l : List Ent} {B : List (List UInt8)} {s : List UInt8} (hs : chunkPut h l B = some s) (w : Nat) (hw : w ≤ B.length) : chunkGet (s.take (w * 256)) = none := by
  obtain ⟨p, hp, he, hpl, hb, hbl, hck, hsl⟩ := chunkPut_parts hs
  rcases Nat.eq_zero_or_pos w with rfl | h0
  · apply chunkGet_head
    unfold getHead
    rw [if_pos (by simp)]
  · have e : s.take (w * 256) = p ++ B.flatten.take (w * 256 - 256) := by rw [he, List.take_append, List.take_of_length_le (by omega), hpl]
    have hg := (get_put hp (B.flatten.take (w * 256 - 256))).1
    rw [← e] at hg
    unfold chunkGet
    rw [hg]
    simp only
    rw [if_neg]
    rintro ⟨h1, -⟩
    rw [List.length_take, hsl] at h1
    omega
end Go.Proofs.Ytjoplgdcpihmaaa
