/- Plain laws of a head's bytes: what is put is got. -/
import Derived.Test.YtjoplgdcpihmaaaHeadJ
namespace Go.Proofs.Ytjoplgdcpihmaaa
open Go.RowKit

theorem num_at (s a c : List UInt8) (v i : Int) (n : Nat) (hs : s = a ++ (putB v n ++ c)) (hi : (a.length : Int) = i) (hn : n ≤ 7) (h0 : 0 ≤ v) (h1 : v < 256 ^ n) : num s i n = v := by
  subst hi
  have hp : (putB v n) = leB v n := by unfold putB; congr 1; omega
  have hd : s.drop a.length = leB v n ++ c := by rw [hs, hp, List.drop_left]
  have ht : ((s.drop a.length).take n) = leB v n := by rw [hd, List.take_append_of_le_length (by rw [leB_length]; omega), List.take_of_length_le (by rw [leB_length]; omega)]
  have hl : a.length + n ≤ s.length := by rw [hs, List.length_append, List.length_append, hp, leB_length]; omega
  unfold num getB
  rw [if_pos ⟨by omega, by omega, by omega, by omega⟩]
  simp only [Int.toNat_natCast, Option.getD_some]
  rw [ht, leN_leB, Int.emod_eq_of_lt h0 h1]

theorem nums_true {h : Hd} {l : List Ent} (hc : checkB h l = true) : (1 ≤ h.house ∧ h.house ≤ 16) ∧ (1 ≤ h.gen ∧ h.gen ≤ 65535) ∧ (1 ≤ h.life ∧ h.life ≤ 1048575) ∧ (1 ≤ h.seq ∧ h.seq ≤ 1099511627776) ∧ (0 ≤ h.next ∧ h.next ≤ 65535) ∧ (0 ≤ h.clock ∧ h.clock ≤ 1099511627776) ∧ (0 ≤ h.sb ∧ h.sb ≤ 1099511627777) ∧ (0 ≤ h.sn ∧ h.sn ≤ 1099511627777) ∧ l.length ≤ 24 ∧ ∀ x ∈ l, entB x = true := by
  have h24 := checkB_len hc
  simp only [checkB, numsB, Bool.and_eq_true, inB_iff, List.all_eq_true] at hc
  obtain ⟨⟨⟨a, b, c, d, e, f, g, i⟩, _⟩, j⟩ := hc
  exact ⟨a, b, c, d, e, f, g, i, h24, j⟩
theorem ent_true {e : Ent} (h : entB e = true) : (1 ≤ e.k ∧ e.k ≤ 5) ∧ (1 ≤ e.n ∧ e.n ≤ 255) ∧ (0 ≤ e.p ∧ e.p ≤ 587) := by
  simp only [entB, Bool.and_eq_true, inB_iff] at h
  obtain ⟨a, b, c, _⟩ := h
  refine ⟨a, b, c.1, Int.le_trans c.2 ?_⟩
  unfold mostOf
  split
  · omega
  · split
    · omega
    · split <;> omega
theorem p1 : (256 : Int) ^ 1 = 256 := by decide
theorem p2 : (256 : Int) ^ 2 = 65536 := by decide
theorem p3 : (256 : Int) ^ 3 = 16777216 := by decide
theorem p4 : (256 : Int) ^ 4 = 4294967296 := by decide
theorem p6 : (256 : Int) ^ 6 = 281474976710656 := by decide
theorem putB_l1 (v : Int) : (putB v 1).length = 1 := by rw [putB_length]; rfl
theorem putB_l2 (v : Int) : (putB v 2).length = 2 := by rw [putB_length]; rfl
theorem putB_l3 (v : Int) : (putB v 3).length = 3 := by rw [putB_length]; rfl
theorem putB_l4 (v : Int) : (putB v 4).length = 4 := by rw [putB_length]; rfl
theorem putB_l6 (v : Int) : (putB v 6).length = 6 := by rw [putB_length]; rfl

theorem numsOf_bytes {h : Hd} {l : List Ent} (hc : checkB h l = true) (c : List UInt8) : numsOf (numBytes h l.length ++ c) = h ∧ num (numBytes h l.length ++ c) 36 1 = l.length := by
  obtain ⟨h1, h2, h3, h4, h5, h6, h7, h8, h9, _⟩ := nums_true hc
  have e1 : num (numBytes h l.length ++ c) 4 1 = h.house := num_at _ [66, 71, 67, 72] (putB h.gen 2 ++ putB h.life 3 ++ putB h.seq 6 ++ putB h.next 2 ++ putB h.clock 6 ++ putB h.sb 6 ++ putB h.sn 6 ++ putB l.length 1 ++ c) _ _ 1 (by simp only [numBytes, List.append_assoc]; try rfl) rfl (by decide) (by omega) (by rw [p1]; omega)
  have e2 : num (numBytes h l.length ++ c) 5 2 = h.gen := num_at _ ([66, 71, 67, 72] ++ putB h.house 1) (putB h.life 3 ++ putB h.seq 6 ++ putB h.next 2 ++ putB h.clock 6 ++ putB h.sb 6 ++ putB h.sn 6 ++ putB l.length 1 ++ c) _ _ 2 (by simp only [numBytes, List.append_assoc]; rfl) (by simp only [List.length_append, putB_l1]; rfl) (by decide) (by omega) (by rw [p2]; omega)
  have e3 : num (numBytes h l.length ++ c) 7 3 = h.life := num_at _ ([66, 71, 67, 72] ++ putB h.house 1 ++ putB h.gen 2) (putB h.seq 6 ++ putB h.next 2 ++ putB h.clock 6 ++ putB h.sb 6 ++ putB h.sn 6 ++ putB l.length 1 ++ c) _ _ 3 (by simp only [numBytes, List.append_assoc]; rfl) (by simp only [List.length_append, putB_l1, putB_l2]; rfl) (by decide) (by omega) (by rw [p3]; omega)
  have e4 : num (numBytes h l.length ++ c) 10 6 = h.seq := num_at _ ([66, 71, 67, 72] ++ putB h.house 1 ++ putB h.gen 2 ++ putB h.life 3) (putB h.next 2 ++ putB h.clock 6 ++ putB h.sb 6 ++ putB h.sn 6 ++ putB l.length 1 ++ c) _ _ 6 (by simp only [numBytes, List.append_assoc]; rfl) (by simp only [List.length_append, putB_l1, putB_l2, putB_l3]; rfl) (by decide) (by omega) (by rw [p6]; omega)
  have e5 : num (numBytes h l.length ++ c) 16 2 = h.next := num_at _ ([66, 71, 67, 72] ++ putB h.house 1 ++ putB h.gen 2 ++ putB h.life 3 ++ putB h.seq 6) (putB h.clock 6 ++ putB h.sb 6 ++ putB h.sn 6 ++ putB l.length 1 ++ c) _ _ 2 (by simp only [numBytes, List.append_assoc]; rfl) (by simp only [List.length_append, putB_l1, putB_l2, putB_l3, putB_l6]; rfl) (by decide) (by omega) (by rw [p2]; omega)
  have e6 : num (numBytes h l.length ++ c) 18 6 = h.clock := num_at _ ([66, 71, 67, 72] ++ putB h.house 1 ++ putB h.gen 2 ++ putB h.life 3 ++ putB h.seq 6 ++ putB h.next 2) (putB h.sb 6 ++ putB h.sn 6 ++ putB l.length 1 ++ c) _ _ 6 (by simp only [numBytes, List.append_assoc]; rfl) (by simp only [List.length_append, putB_l1, putB_l2, putB_l3, putB_l6]; rfl) (by decide) (by omega) (by rw [p6]; omega)
  have e7 : num (numBytes h l.length ++ c) 24 6 = h.sb := num_at _ ([66, 71, 67, 72] ++ putB h.house 1 ++ putB h.gen 2 ++ putB h.life 3 ++ putB h.seq 6 ++ putB h.next 2 ++ putB h.clock 6) (putB h.sn 6 ++ putB l.length 1 ++ c) _ _ 6 (by simp only [numBytes, List.append_assoc]; rfl) (by simp only [List.length_append, putB_l1, putB_l2, putB_l3, putB_l6]; rfl) (by decide) (by omega) (by rw [p6]; omega)
  have e8 : num (numBytes h l.length ++ c) 30 6 = h.sn := num_at _ ([66, 71, 67, 72] ++ putB h.house 1 ++ putB h.gen 2 ++ putB h.life 3 ++ putB h.seq 6 ++ putB h.next 2 ++ putB h.clock 6 ++ putB h.sb 6) (putB l.length 1 ++ c) _ _ 6 (by simp only [numBytes, List.append_assoc]; rfl) (by simp only [List.length_append, putB_l1, putB_l2, putB_l3, putB_l6]; rfl) (by decide) (by omega) (by rw [p6]; omega)
  have e9 : num (numBytes h l.length ++ c) 36 1 = l.length := num_at _ ([66, 71, 67, 72] ++ putB h.house 1 ++ putB h.gen 2 ++ putB h.life 3 ++ putB h.seq 6 ++ putB h.next 2 ++ putB h.clock 6 ++ putB h.sb 6 ++ putB h.sn 6) c _ _ 1 (by simp only [numBytes, List.append_assoc]; try rfl) (by simp only [List.length_append, putB_l1, putB_l2, putB_l3, putB_l6]; rfl) (by decide) (by omega) (by rw [p1]; omega)
  refine ⟨?_, e9⟩
  unfold numsOf
  rw [e1, e2, e3, e4, e5, e6, e7, e8]

theorem entsBytes_split (l : List Ent) (k : Nat) (h : k < l.length) : entsBytes l = entsBytes (l.take k) ++ (entBytes l[k] ++ entsBytes (l.drop (k + 1))) := by
  conv => lhs; rw [← List.take_append_drop k l, List.drop_eq_getElem_cons h]
  unfold entsBytes
  rw [List.flatMap_append, List.flatMap_cons]
theorem entAt_bytes {h : Hd} {l : List Ent} (hc : checkB h l = true) (c : List UInt8) (k : Nat) (hk : k < l.length) : entAt (numBytes h l.length ++ entsBytes l ++ c) k = l[k] := by
  have he := (nums_true hc).2.2.2.2.2.2.2.2.2 l[k] (List.getElem_mem hk)
  obtain ⟨h1, h2, h3⟩ := ent_true he
  have hs := entsBytes_split l k hk
  have hl : ((numBytes h l.length ++ entsBytes (l.take k)).length : Int) = 37 + 4 * (k : Int) := by
    rw [List.length_append, numBytes_length, entsBytes_length, List.length_take, Nat.min_eq_left (by omega)]; omega
  generalize l[k] = x at *
  generalize entsBytes (l.drop (k + 1)) = d at *
  rw [hs]
  generalize entsBytes (l.take k) = e at *
  generalize numBytes h l.length = n at *
  have e1 : num (n ++ (e ++ (entBytes x ++ d)) ++ c) (37 + 4 * (k : Int)) 1 = x.k := num_at _ (n ++ e) (putB x.n 1 ++ putB x.p 2 ++ d ++ c) _ _ 1 (by simp only [entBytes, List.append_assoc]; try rfl) hl (by decide) (by omega) (by rw [p1]; omega)
  have e2 : num (n ++ (e ++ (entBytes x ++ d)) ++ c) (37 + 4 * (k : Int) + 1) 1 = x.n := num_at _ (n ++ e ++ putB x.k 1) (putB x.p 2 ++ d ++ c) _ _ 1 (by simp only [entBytes, List.append_assoc]; try rfl) (by rw [List.length_append, putB_l1]; omega) (by decide) (by omega) (by rw [p1]; omega)
  have e3 : num (n ++ (e ++ (entBytes x ++ d)) ++ c) (37 + 4 * (k : Int) + 1 + 1) 2 = x.p := num_at _ (n ++ e ++ putB x.k 1 ++ putB x.n 1) (d ++ c) _ _ 2 (by simp only [entBytes, List.append_assoc]; try rfl) (by rw [List.length_append, List.length_append, putB_l1, putB_l1]; omega) (by decide) (by omega) (by rw [p2]; omega)
  unfold entAt
  rw [e1, e2, e3]
theorem entsAt_bytes {h : Hd} {l : List Ent} (hc : checkB h l = true) (c : List UInt8) : entsAt (numBytes h l.length ++ entsBytes l ++ c) l.length = l := by
  apply List.ext_getElem
  · rw [entsAt_length]
  · intro i h1 h2
    simp only [entsAt, List.getElem_map, List.getElem_range]
    exact entAt_bytes hc c i h2

/-- What is put is got, whatever stands behind. -/
theorem get_put {h : Hd} {l : List Ent} {body s : List UInt8} (hp : headPut h l body = some s) (more : List UInt8) : getHead (s ++ more) = some (h, l, sumOf s body) ∧ s.length = 256 := by
  unfold headPut at hp
  split at hp
  · rename_i hcb
    obtain ⟨hc, hlen⟩ := hcb
    simp only [Option.some.injEq] at hp
    subst hp
    have h24 := checkB_len hc
    have hbl := headBytes_length h l h24
    have hsl : (headBytes h l ++ putB (sumOf (headBytes h l) body) 4).length = 256 := by rw [List.length_append, hbl, putB_l4]
    have ht : (headBytes h l ++ putB (sumOf (headBytes h l) body) 4 ++ more).take 256 = headBytes h l ++ putB (sumOf (headBytes h l) body) 4 := by
      rw [List.take_append_of_le_length (by omega), List.take_of_length_le (by omega)]
    have ht2 : (headBytes h l ++ putB (sumOf (headBytes h l) body) 4 ++ more).take 252 = headBytes h l := by
      rw [List.append_assoc, List.take_append_of_le_length (by omega), List.take_of_length_le (by omega)]
    have hss : sumOf (headBytes h l ++ putB (sumOf (headBytes h l) body) 4) body = sumOf (headBytes h l) body := by
      unfold sumOf
      rw [List.take_append_of_le_length (by omega), List.take_of_length_le (by omega)]
    refine ⟨?_, hsl⟩
    rw [hss]
    have hb := vU_bd (crcMore (crcMore 0 ((headBytes h l).take 252)) body)
    have hn4 : num (headBytes h l ++ putB (sumOf (headBytes h l) body) 4) 252 4 = sumOf (headBytes h l) body :=
      num_at _ (headBytes h l) [] _ _ 4 (by rw [List.append_nil]; rfl) (by rw [hbl]; rfl) (by decide) (by unfold sumOf; omega) (by rw [p4]; unfold sumOf; omega)
    have hform : headBytes h l ++ putB (sumOf (headBytes h l) body) 4 = numBytes h l.length ++ (entsBytes l ++ (List.replicate (252 - (numBytes h l.length ++ entsBytes l).length) 0 ++ putB (sumOf (headBytes h l) body) 4)) := by
      conv => lhs; arg 1; unfold headBytes padTo
      simp only [List.append_assoc]
    have hform2 : headBytes h l ++ putB (sumOf (headBytes h l) body) 4 = numBytes h l.length ++ entsBytes l ++ (List.replicate (252 - (numBytes h l.length ++ entsBytes l).length) 0 ++ putB (sumOf (headBytes h l) body) 4) := by
      rw [hform]; simp only [List.append_assoc]
    have hno := numsOf_bytes hc (entsBytes l ++ (List.replicate (252 - (numBytes h l.length ++ entsBytes l).length) 0 ++ putB (sumOf (headBytes h l) body) 4))
    have hen := entsAt_bytes hc (List.replicate (252 - (numBytes h l.length ++ entsBytes l).length) 0 ++ putB (sumOf (headBytes h l) body) 4)
    rw [← hform] at hno
    rw [← hform2] at hen
    unfold getHead
    rw [if_neg (by rw [List.length_append]; omega), ht, ht2]
    have hcnt : cntOf (headBytes h l ++ putB (sumOf (headBytes h l) body) 4) = l.length := by unfold cntOf; rw [hno.2]; omega
    rw [hcnt, hno.1, hen, if_pos ⟨hc, rfl⟩, hn4]
  · cases hp
end Go.Proofs.Ytjoplgdcpihmaaa
