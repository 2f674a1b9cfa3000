/- The table of bytes, the document's own (Get). -/
import Derived.Test.YtjoplgdcpihmaaaTabV
import Derived.Test.YtjoplgdcpihmaaaTabU
import Derived.Test.YtjoplgdcpihmaaaTabL
namespace Go.Proofs.Ytjoplgdcpihmaaa
open Go.RowKit
section
set_option maxRecDepth 100000 in
theorem refnum6_any (s : List UInt8) (i n : Int) (w : World) (hs : s.length ≤ 140737488351232) :
    Calls Try.prog 105 #[.string (bs s), .int .i64 i, .int .i64 n] w fun e w' => e = .returned (.int .i64 (getv s i n)) ∧ w = w' := by
  go_enter Try.func105, Try.ntmps105
  go_wp2_with fail
  refine (refGet_any s i n _ hs).mono ?_
  rintro e w1 ⟨rfl, rfl⟩
  go_wp2_with fail
  go_ret
  exact ⟨rfl, rfl⟩
end
theorem fillH_1 (s : List UInt8) (p : Int) : fillH s p 1 = ⟨(getv s p 1), 0, ⟨0, 0, 0, 0, 0, 0, 0⟩, []⟩ := by
  show setF hd0 0 (getv s (p + 0) 1) = _
  rw [Int.add_zero]; rfl
theorem fillH_2 (s : List UInt8) (p : Int) : fillH s p 2 = ⟨(getv s p 1), (getv s (p + 1) 2), ⟨0, 0, 0, 0, 0, 0, 0⟩, []⟩ := by
  show setF (fillH s p 1) 1 (getv s (p + 1) 2) = _
  rw [fillH_1]; rfl
theorem fillH_3 (s : List UInt8) (p : Int) : fillH s p 3 = ⟨(getv s p 1), (getv s (p + 1) 2), ⟨(getv s (p + 3) 1), 0, 0, 0, 0, 0, 0⟩, []⟩ := by
  show setF (fillH s p 2) 2 (getv s (p + 3) 1) = _
  rw [fillH_2]; rfl
theorem fillH_4 (s : List UInt8) (p : Int) : fillH s p 4 = ⟨(getv s p 1), (getv s (p + 1) 2), ⟨(getv s (p + 3) 1), (getv s (p + 4) 3), 0, 0, 0, 0, 0⟩, []⟩ := by
  show setF (fillH s p 3) 3 (getv s (p + 4) 3) = _
  rw [fillH_3]; rfl
theorem fillH_5 (s : List UInt8) (p : Int) : fillH s p 5 = ⟨(getv s p 1), (getv s (p + 1) 2), ⟨(getv s (p + 3) 1), (getv s (p + 4) 3), (getv s (p + 7) 3), 0, 0, 0, 0⟩, []⟩ := by
  show setF (fillH s p 4) 4 (getv s (p + 7) 3) = _
  rw [fillH_4]; rfl
theorem fillH_6 (s : List UInt8) (p : Int) : fillH s p 6 = ⟨(getv s p 1), (getv s (p + 1) 2), ⟨(getv s (p + 3) 1), (getv s (p + 4) 3), (getv s (p + 7) 3), (getv s (p + 10) 1), 0, 0, 0⟩, []⟩ := by
  show setF (fillH s p 5) 5 (getv s (p + 10) 1) = _
  rw [fillH_5]; rfl
theorem fillH_7 (s : List UInt8) (p : Int) : fillH s p 7 = ⟨(getv s p 1), (getv s (p + 1) 2), ⟨(getv s (p + 3) 1), (getv s (p + 4) 3), (getv s (p + 7) 3), (getv s (p + 10) 1), (getv s (p + 11) 1), 0, 0⟩, []⟩ := by
  show setF (fillH s p 6) 6 (getv s (p + 11) 1) = _
  rw [fillH_6]; rfl
theorem fillH_8 (s : List UInt8) (p : Int) : fillH s p 8 = ⟨(getv s p 1), (getv s (p + 1) 2), ⟨(getv s (p + 3) 1), (getv s (p + 4) 3), (getv s (p + 7) 3), (getv s (p + 10) 1), (getv s (p + 11) 1), (getv s (p + 12) 6), 0⟩, []⟩ := by
  show setF (fillH s p 7) 7 (getv s (p + 12) 6) = _
  rw [fillH_7]; rfl
theorem fillH_9 (s : List UInt8) (p : Int) : fillH s p 9 = ⟨(getv s p 1), (getv s (p + 1) 2), ⟨(getv s (p + 3) 1), (getv s (p + 4) 3), (getv s (p + 7) 3), (getv s (p + 10) 1), (getv s (p + 11) 1), (getv s (p + 12) 6), (getv s (p + 18) 2)⟩, []⟩ := by
  show setF (fillH s p 8) 8 (getv s (p + 18) 2) = _
  rw [fillH_8]; rfl

def segN (s : List UInt8) (p : Int) : Nat := (min (getv s (p + 20) 1) 40).toNat
theorem segN_bd (s : List UInt8) (p : Int) : segN s p ≤ 40 := by unfold segN; omega
theorem segN_lt {s : List UInt8} {p : Int} {m : Nat} : m < segN s p ↔ (m : Int) < getv s (p + 20) 1 ∧ (m : Int) < 40 := by
  have := getv_bd s (p + 20) 1
  unfold segN; omega
theorem pHouse_eq (s : List UInt8) (k : Nat) (p : Int) (hp : houseAt k = p) : pHouse s k = ⟨getv s p 1, getv s (p + 1) 2, ⟨getv s (p + 3) 1, getv s (p + 4) 3, getv s (p + 7) 3, getv s (p + 10) 1, getv s (p + 11) 1, getv s (p + 12) 6, getv s (p + 18) 2⟩, segsOf s (p + 21) (segN s p)⟩ := by
  have h10 : fillH s p 10 = ⟨getv s p 1, getv s (p + 1) 2, ⟨getv s (p + 3) 1, getv s (p + 4) 3, getv s (p + 7) 3, getv s (p + 10) 1, getv s (p + 11) 1, getv s (p + 12) 6, getv s (p + 18) 2⟩, if 0 < getv s (p + 20) 1 then List.replicate (min (getv s (p + 20) 1) 40).toNat 0 else []⟩ := by
    show setF (fillH s p 9) 9 (getv s (p + 20) 1) = _
    rw [fillH_9]; rfl
  have hb := getv_bd s (p + 20) 1
  have hl : (if 0 < getv s (p + 20) 1 then List.replicate (min (getv s (p + 20) 1) 40).toNat (0 : Int) else []).length = segN s p := by
    unfold segN
    split
    · rw [List.length_replicate]
    · simp; omega
  unfold pHouse
  rw [hp, h10]
  simp only [hl]
theorem segsOf_succ (s : List UInt8) (p : Int) (m : Nat) : segsOf s p (m + 1) = segsOf s p m ++ [getv s (p + 2 * (m : Int)) 2] := by unfold segsOf; rw [List.range_succ, List.map_append]; rfl
theorem segsOf_len (s : List UInt8) (p : Int) (m : Nat) : (segsOf s p m).length = m := by simp [segsOf]
theorem pTab_snoc (s : List UInt8) (k : Nat) : (List.range (k + 1)).map (pHouse s) = (List.range k).map (pHouse s) ++ [pHouse s k] := by rw [List.range_succ, List.map_append]; rfl
theorem get_short {t : List UInt8} (h : t.length ≠ 2048) : tableGet t = none := by
  cases hg : tableGet t with
  | none => rfl
  | some r => exact absurd (tableGet_parts hg).1 h
section
attribute [local go_sem] bs_size bs_toList
attribute [local go_sem ↓] Go.wp_at_zero Go.wp_at_succ
set_option maxRecDepth 100000 in
set_option maxHeartbeats 8000000 in
theorem rtget_any (s : List UInt8) (w : World) (hs : s.length ≤ 140737488351232) :
    Calls Try.prog 45 #[.string (bs s)] w fun e w' => Below w.heap.size w w' ∧
      ((∃ n L A l c, tableGet s = some (n, L) ∧ e = .returned (.tuple #[.int .i64 n, .slice A l.length c, .bool true]) ∧ l.map (·.d) = L ∧ (∀ h ∈ l, h.d.segs.length ≤ 40) ∧ l.length = 16 ∧ HReads w' (.slice A l.length c) l) ∨
       (tableGet s = none ∧ e = .returned (.tuple #[.int .i64 0, .slice none 0 0, .bool false]))) := by
  by_cases h2048 : s.length = 2048
  · have hne : ((s.length : Int) != 2048) = false := by rw [h2048]; decide
    have HSL := Lib.hid h2048
    have HS := Lib.hid hs
    have HB0 := Lib.hid (Below.refl w.heap.size w)
    clear h2048 hs
    go_enter Try.func45, Try.ntmps45
    go_wp2_with fail
    clear hne
    go_loopw [5, 6, 7] (fun ls at_ i wr => ∃ (k : Nat) (l : List HM) (A : Option Addr) (c : Nat), k ≤ 16 ∧ i = .int .i64 k ∧ at_ = .int .i64 (houseAt k) ∧ ls = .slice A l.length c ∧ l.map (·.d) = (List.range k).map (pHouse s) ∧ HSt wr w.heap.size (.slice A l.length c) l ∧ Below w.heap.size w wr) (fun _ _ i _ => 16 - (intOf i).toNat)
    case atStart => exact ⟨0, [], none, 0, by omega, rfl, rfl, rfl, rfl, ⟨El.Own.nil _ _, (fun x hx => by cases hx), (fun x hx => by cases hx), (fun i j x y a b _ hx => by simp at hx)⟩, HB0.out⟩
    clear HB0
    case round =>
      obtain ⟨k, l, A, c, hk, rfl, rfl, rfl, hd, hst, hb⟩ := hrel
      obtain ⟨wk, rfl⟩ : ∃ wk, wk = wr := ⟨wr, rfl⟩
      have HDD := Lib.hid hd
      have HST := Lib.hid hst
      have HB := Lib.hid hb
      have hll : l.length = k := by
        have := congrArg List.length hd
        simpa using this
      have HLL := Lib.hid hll
      clear hd hst hb hll
      by_cases hlt : k < 16
      · have hp : 0 ≤ houseAt k ∧ houseAt k ≤ 2000 := by unfold houseAt; omega
        have HPK : Hid (houseAt (k + 1) = houseAt k + 101) := by unfold Hid houseAt; omega
        have HPH := Lib.hid (pHouse_eq s k _ rfl)
        generalize houseAt k = p at *
        have HF0 := Lib.hid (Fr.one wk #[.int .i64 (getv s p 1), .int .i64 (getv s (p + 1) 2), .int .i64 (getv s (p + 3) 1), .int .i64 (getv s (p + 4) 3), .int .i64 (getv s (p + 7) 3), .int .i64 (getv s (p + 10) 1), .int .i64 (getv s (p + 11) 1), .int .i64 (getv s (p + 12) 6), .int .i64 (getv s (p + 18) 2), .slice none 0 0] 61)
        go_upto_region 9 with (go_at_call 105; refine (refnum6_any s _ _ _ HS.out).mono ?_; rintro e w' ⟨rfl, rfl⟩)
        generalize getv s p 1 = g0 at *
        generalize getv s (p + 1) 2 = g1 at *
        generalize getv s (p + 3) 1 = g2 at *
        generalize getv s (p + 4) 3 = g3 at *
        generalize getv s (p + 7) 3 = g4 at *
        generalize getv s (p + 10) 1 = g5 at *
        generalize getv s (p + 11) 1 = g6 at *
        generalize getv s (p + 12) 6 = g7 at *
        generalize getv s (p + 18) 2 = g8 at *
        have hvb := getv_bd s (p + 20) 1
        have HF1 : Hid (Fr wk (wk.alloc (.cells #[.int .i64 g0, .int .i64 g1, .int .i64 g2, .int .i64 g3, .int .i64 g4, .int .i64 g5, .int .i64 g6, .int .i64 g7, .int .i64 g8, .slice none 0 0] 61)) [(#[.int .i64 g0, .int .i64 g1, .int .i64 g2, .int .i64 g3, .int .i64 g4, .int .i64 g5, .int .i64 g6, .int .i64 g7, .int .i64 g8, .slice none 0 0], 61)]) := HF0.out
        clear HF0
        go_wp2_with fail
        go_loopw [9] (fun jj wi => ∃ (m : Nat) (B : Option Addr) (b : Nat), m ≤ segN s p ∧ jj = .int .i64 m ∧ Fr wk wi [(#[.int .i64 g0, .int .i64 g1, .int .i64 g2, .int .i64 g3, .int .i64 g4, .int .i64 g5, .int .i64 g6, .int .i64 g7, .int .i64 g8, (.slice B (segsOf s (p + 21) m).length b)], 61)] ∧ EI.Own wi (wk.heap.size + 1) (.slice B (segsOf s (p + 21) m).length b) (segsOf s (p + 21) m)) (fun jj _ => 40 - (intOf jj).toNat)
        case atStart => exact ⟨0, none, 0, Nat.zero_le _, rfl, HF1.out, El.Own.nil _ _⟩
        clear HF1
        case round =>
          obtain ⟨m, B, b, hm, rfl, hf, ho⟩ := hrel
          have HF0 := Lib.hid hf
          have HO0 := Lib.hid ho
          clear hf ho
          have hnb := segN_bd s p
          by_cases hmn : m < segN s p
          · obtain ⟨h1, h2⟩ := segN_lt.1 hmn
            have HSL2 : Hid ((segsOf s (p + 21) m).length = m) := segsOf_len _ _ _
            have HSS : Hid (segsOf s (p + 21) (m + 1) = segsOf s (p + 21) m ++ [getv s (p + 21 + 2 * (m : Int)) 2]) := segsOf_succ _ _ _
            go_upto_region 12 with (go_at_call 105; refine (refnum6_any s _ _ _ HS.out).mono ?_; rintro e w' ⟨rfl, rfl⟩)
            have HF := Lib.hid HF0.out.drew
            have HO := Lib.hid HO0.out.drew
            have c9 : wr.cell? ⟨wk.heap.size, 9, none⟩ = some (.slice B (segsOf s (p + 21) m).length b) := HF0.out.cells (i := 0) rfl rfl 9
            have f9 : wr.frozen? ⟨wk.heap.size, 9, none⟩ = false := HF0.out.frees (i := 0) rfl rfl 9
            have hne : wk.heap.size < wr.heap.size := HF0.out.lt (i := 0) (by simp) rfl
            clear HF0 HO0
            have q0 : IntKind.i64.wrap (p + 21) = p + 21 := IntWalk.i64_in _ (by omega)
            have q1 : IntKind.i64.wrap (2 * (m : Int)) = 2 * (m : Int) := IntWalk.i64_in _ (by omega)
            have q2 : IntKind.i64.wrap (p + 21 + 2 * (m : Int)) = p + 21 + 2 * (m : Int) := IntWalk.i64_in _ (by omega)
            go_region_law
              ((first | (go_simp; go_at_call 105; refine (refnum6_any s _ _ _ HS.out).mono ?_; rintro e w' ⟨rfl, rfl⟩) | (refine El.fr_step EI HF.out HO.out rfl ?_ ?_ (getv s (p + 21 + 2 * (m : Int)) 2) (by rfl) _ _ (by rfl) (by rfl) (by rfl) _ (by rfl) ?_; (rw [HSL2.out]; simp only [EI]; omega); (rw [HSL2.out]; omega); intro A2 n2 c2 w1 hfr ho hg; clear HF HO c9 f9 hne hg; have HF := Lib.hid hfr; have HO := Lib.hid ho; have c9 : w1.cell? ⟨wk.heap.size, 9, none⟩ = some (.slice B (segsOf s (p + 21) m).length b) := HF.out.cells (i := 0) rfl rfl 9; have f9 : w1.frozen? ⟨wk.heap.size, 9, none⟩ = false := HF.out.frees (i := 0) rfl rfl 9; have hne : wk.heap.size < w1.heap.size := HF.out.lt (i := 0) (by simp) rfl; clear hfr ho) | fail))
            all_goals
              clear q0 q1 q2 c9 f9
              have hn2 : n2 = (segsOf s (p + 21) (m + 1)).length := by
                obtain ⟨A3, c3, e, -⟩ := HO.out.reads
                injection e with e1 e2 e3
                rw [HSS.out]; exact e2
              have HFN : Hid (Fr wk (w1.setCell ⟨wk.heap.size, 9, none⟩ (.slice A2 n2 c2)) [(#[.int .i64 g0, .int .i64 g1, .int .i64 g2, .int .i64 g3, .int .i64 g4, .int .i64 g5, .int .i64 g6, .int .i64 g7, .int .i64 g8, .slice A2 n2 c2], 61)]) := (HF.out.set (i := 0) (b := wk.heap.size) rfl rfl 9 (.slice A2 n2 c2)).at' (by simp only [List.set_cons_zero, List.setIfInBounds_toArray, List.set_cons_succ])
              have HON : Hid (EI.Own (w1.setCell ⟨wk.heap.size, 9, none⟩ (.slice A2 n2 c2)) (wk.heap.size + 1) (.slice A2 n2 c2) (segsOf s (p + 21) (m + 1))) := by unfold Hid; rw [HSS.out]; exact HO.out.set (by show wk.heap.size < _; omega) _
              subst hn2
              go_wp2_with fail
              go_roundw
              case rel => exact ⟨m + 1, A2, c2, hmn, by go_num, HFN.out, HON.out⟩
              case measure => simp only [intOf]; omega
          · have hme : m = segN s p := by omega
            subst hme
            have hcs : (segN s p : Int) < getv s (p + 20) 1 ∧ ¬ (segN s p : Int) < 40 ∨ ¬ (segN s p : Int) < getv s (p + 20) 1 := by
              by_cases h1 : (segN s p : Int) < getv s (p + 20) 1
              · by_cases h2 : (segN s p : Int) < 40
                · exact absurd (segN_lt.2 ⟨h1, h2⟩) (Nat.lt_irrefl _)
                · exact .inl ⟨h1, h2⟩
              · exact .inr h1
            have HSN : Hid ((segsOf s (p + 21) (segN s p)).length = segN s p) := segsOf_len _ _ _
            have HS3 := Lib.hid (HST.out.below HF0.out.bel)
            have HB3 := Lib.hid (HB.out.trans (HF0.out.bel.mono HB.out.size))
            have HLT : Hid (∀ k2, (Value.slice A l.length c).ownBlock = some k2 → k2 < wk.heap.size) := fun k2 e => (HST.out.own.lt k2 e).2
            have HLX : Hid (∀ y ∈ l, ∀ a, y.A = some a → a.block < wk.heap.size) := fun y hy a e => (HST.out.seg_block hy e).2
            have HLQ : Hid (l.length ≤ 20) := by have := HLL.out; unfold Hid; omega
            have HGE : Hid (w.heap.size ≤ wk.heap.size + 1) := by have := HB.out.size; unfold Hid; omega
            have cc : ∀ j : Nat, wr.cell? ⟨wk.heap.size, j, none⟩ = _ := HF0.out.cells (i := 0) rfl rfl
            have HD4 : Hid ((l ++ [(⟨⟨g0, g1, ⟨g2, g3, g4, g5, g6, g7, g8⟩, segsOf s (p + 21) (segN s p)⟩, B, b⟩ : HM)]).map (·.d) = (List.range (k + 1)).map (pHouse s)) := by
              unfold Hid
              rw [List.map_append, HDD.out, pTab_snoc, HPH.out]; rfl
            have HPA : Hid (p + 21 + 80 = houseAt (k + 1)) := by unfold Hid; rw [HPK.out]; omega
            rcases hcs with ⟨h1, h2⟩ | h1
            all_goals
              go_upto_region 13 with (go_at_call 105; refine (refnum6_any s _ _ _ HS.out).mono ?_; rintro e w' ⟨rfl, rfl⟩)
              go_wp2_with (at_builtin; refine EH.app (w0 := w) rfl _ _ rfl w.heap.size (.slice A l.length c) l ⟨⟨g0, g1, ⟨g2, g3, g4, g5, g6, g7, g8⟩, segsOf s (p + 21) (segN s p)⟩, B, b⟩ rfl HS3.out.own rfl _ rfl ?cb ?cm HB3.out.size HB3.out ?_; (case cb => have := HLQ.out; simp only [EH]; omega); (case cm => have := HLQ.out; omega); intro v' w4 ho hb hg hat; obtain ⟨B', b', rfl, -⟩ := ho.reads; have HS4 := Lib.hid (HS3.out.push hg ho hat (HO0.out.mono HGE.out) (fun a e e2 => by have h1 := HLT.out a.block e2.symm; have h2 := (HO0.out.lt a.block (by rw [own_block_of]; show B.map _ = _; rw [show B = some a from e]; rfl)).1; omega) (fun y hy a b e1 e2 e3 => by have h1 := HLX.out y hy a e1; have h2 := (HO0.out.lt b.block (by rw [own_block_of]; show B.map _ = _; rw [show B = some b from e2]; rfl)).1; omega)); have HB4 := Lib.hid hb; clear ho hb hg hat)
              clear cc
              go_roundw
              case rel => exact ⟨k + 1, _, B', b', by omega, by go_num, by rw [← HPA.out], by rw [List.length_append]; rfl, HD4.out, HS4.out, HB4.out⟩
              case measure => simp only [intOf]; omega
      · obtain rfl : k = 16 := by omega
        have HTG : Hid (pTab s = (List.range 16).map (pHouse s)) := rfl
        have HSH : Hid (∀ h ∈ l, h.d.segs.length ≤ 40) := fun h hh => by
          have h1 : h.d ∈ (List.range 16).map (pHouse s) := by rw [← HDD.out]; exact List.mem_map_of_mem hh
          obtain ⟨q, -, e⟩ := List.mem_map.1 h1
          rw [← e, pHouse_eq s q _ rfl]
          have := segN_bd s (houseAt q)
          simp only [segsOf_len]; exact this
        go_wp2_with fail
        refine (refnum6_any s _ _ _ HS.out).mono ?_
        rintro e w2 ⟨rfl, rfl⟩
        go_wp2_with fail
        refine (rtput_any _ _ l _ HST.out.reads (by rw [HLL.out]; decide) (fun h hh => by have := HSH.out h hh; omega)).mono ?_
        rw [HDD.out, ← HTG.out]
        rintro e w3 ⟨rfl, hb⟩
        have HB3 := Lib.hid (HB.out.trans (hb.mono HB.out.size))
        have HS3 := Lib.hid (HST.out.below hb)
        clear hb
        have HDE : Hid (l.map (·.d) = pTab s) := HDD.out
        have HTX : Hid (tableGet s = if tablePut (getv s 4 6) (pTab s) = some s then some (getv s 4 6, pTab s) else none) := rfl
        generalize tablePut (getv s 4 6) (pTab s) = r at *
        unfold putAns
        cases r with
        | none =>
          have HN : Hid (tableGet s = none) := by unfold Hid; rw [HTX.out, if_neg (by intro h; cases h)]
          simp only [Option.getD_none, Option.isSome_none]
          go_wp2_with fail
          go_ret3
          exact ⟨HB3.out, .inr ⟨HN.out, rfl⟩⟩
        | some t =>
          simp only [Option.getD_some, Option.isSome_some]
          by_cases hts : t = s
          · subst hts
            have HN : Hid (tableGet t = some (getv t 4 6, pTab t)) := by unfold Hid; rw [HTX.out, if_pos rfl]
            go_wp2_with fail
            refine (refnum6_any t _ _ _ HS.out).mono ?_
            rintro e w2 ⟨rfl, rfl⟩
            go_wp2_with fail
            go_ret3
            exact ⟨HB3.out, .inl ⟨_, _, _, l, _, HN.out, rfl, HDE.out, HSH.out, HLL.out, HS3.out.reads⟩⟩
          · have HN : Hid (tableGet s = none) := by unfold Hid; rw [HTX.out, if_neg (by intro h; injection h with h; exact hts h)]
            have htb : (t != s) = true := by rw [bne_iff_ne]; exact hts
            have htc : (t == s) = false := by rw [beq_eq_false_iff_ne]; exact hts
            go_wp2_with fail
            go_ret3
            exact ⟨HB3.out, .inr ⟨HN.out, rfl⟩⟩
  · have hne : ((s.length : Int) != 2048) = true := by rw [bne_iff_ne]; omega
    have HN := Lib.hid (get_short h2048)
    have HB0 := Lib.hid (Below.refl w.heap.size w)
    clear h2048 hs
    go_enter Try.func45, Try.ntmps45
    go_wp2_with fail
    go_ret3
    exact ⟨HB0.out, .inr ⟨HN.out, rfl⟩⟩
end
end Go.Proofs.Ytjoplgdcpihmaaa
