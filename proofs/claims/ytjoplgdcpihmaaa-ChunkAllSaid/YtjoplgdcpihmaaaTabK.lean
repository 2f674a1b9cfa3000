/- table.Get. -/
import Derived.Test.YtjoplgdcpihmaaaTabJ
import Derived.Deep.RegionLaw
namespace Go.Proofs.Ytjoplgdcpihmaaa
open Go.RowKit

def hd0 : HD := ⟨0, 0, ⟨0, 0, 0, 0, 0, 0, 0⟩, []⟩
def nbs : Nat → Int
  | 0 => 0
  | q + 1 => nbs q + fldNb q
/-- The first q fields of the house at place p. -/
def fillH (s : List UInt8) (p : Int) : Nat → HD
  | 0 => hd0
  | q + 1 => setF (fillH s p q) q (getv s (p + nbs q) (fldNb q))
def segsPre (s : List UInt8) (p : Int) (n j : Nat) : List Int := (List.range n).map fun i => if i < j then getv s (p + 2 * i) 2 else 0
def segsOf (s : List UInt8) (p : Int) (n : Nat) : List Int := (List.range n).map fun (i : Nat) => getv s (p + 2 * i) 2
def houseAt (k : Nat) : Int := 10 + 101 * k
def pHouse (s : List UInt8) (k : Nat) : HD := { fillH s (houseAt k) 10 with segs := segsOf s (houseAt k + 21) (fillH s (houseAt k) 10).segs.length }
def pTab (s : List UInt8) : List HD := (List.range 16).map (pHouse s)
def tableGet (s : List UInt8) : Option (Int × List HD) := if tablePut (getv s 4 6) (pTab s) = some s then some (getv s 4 6, pTab s) else none
theorem nbs_10 : nbs 10 = 21 := rfl
theorem nbs_bd (q : Nat) : 0 ≤ nbs q ∧ nbs q ≤ 6 * q := by
  induction q with
  | zero => simp [nbs]
  | succ q ih =>
    have : 0 ≤ fldNb q ∧ fldNb q ≤ 6 := by unfold fldNb; split <;> decide
    simp only [nbs]; omega
theorem segsPre_len (s : List UInt8) (p : Int) (n j : Nat) : (segsPre s p n j).length = n := by simp [segsPre]
theorem segsPre_zero (s : List UInt8) (p : Int) (n : Nat) : segsPre s p n 0 = List.replicate n 0 := by
  apply List.ext_getElem <;> simp [segsPre]
theorem segsPre_done (s : List UInt8) (p : Int) (n j : Nat) (h : n ≤ j) : segsPre s p n j = segsOf s p n := by
  apply List.ext_getElem
  · simp [segsPre, segsOf]
  · intro i h1 h2
    simp [segsPre, segsOf] at h1 h2 ⊢
    omega
theorem segsPre_skip (s : List UInt8) (p : Int) (n j : Nat) (h : n ≤ j) : segsPre s p n (j + 1) = segsPre s p n j := by rw [segsPre_done _ _ _ _ h, segsPre_done _ _ _ _ (by omega)]
theorem segsPre_succ (s : List UInt8) (p : Int) (n j : Nat) (_h : j < n) : segsPre s p n (j + 1) = (segsPre s p n j).set j (getv s (p + 2 * j) 2) := by
  apply List.ext_getElem
  · simp [segsPre]
  · intro i h1 h2
    simp only [segsPre, List.getElem_map, List.getElem_range, List.getElem_set]
    by_cases hij : j = i
    · subst hij; rw [if_pos (by omega), if_pos rfl]
    · rw [if_neg hij]
      by_cases h3 : i < j
      · rw [if_pos (by omega), if_pos h3]
      · rw [if_neg (by omega), if_neg h3]
theorem getv_bd (s : List UInt8) (i n : Int) : 0 ≤ getv s i n ∧ getv s i n < 72057594037927936 := by
  unfold getv getB
  split
  · rename_i h
    have := leN_lt ((s.drop i.toNat).take n.toNat) 7 (by rw [List.length_take]; omega)
    simp only [Option.getD_some]
    exact ⟨this.1, by have h2 := this.2; simpa using h2⟩
  · simp
theorem FldSt.kept {W W' : World} {b p : Nat} {g : Nat → Nat} (h : FldSt W b g) (hg : W.grownBy W' (some p)) (hb : b ≠ p) (hgi : ∀ i, i < 9 → g i ≠ p) : FldSt W' b g :=
  ⟨(hg.block _ (lt_of_block h.1) (by simp; exact fun e => hb e)).trans h.1, fun i hi => (hg.block _ (lt_of_block (h.2 i hi)) (by simp; exact fun e => hgi i hi e)).trans (h.2 i hi)⟩
theorem next_clos (s : List UInt8) (sb ab : Nat) (pos n : Int) (w : World) (hl : s.length ≤ 140737488351232) (hS : w.heap[sb]? = some (.cells #[.string (bs s)] 9 (0, 0))) (hA : w.heap[ab]? = some (.cells #[.int .i64 pos] 3 (0, 0))) (hw : IntKind.i64.wrap (pos + n) = pos + n) :
    Calls Try.prog 102 (#[.int .i64 n] ++ #[.pointer (some ⟨sb, 0, none⟩), .pointer (some ⟨ab, 0, none⟩)]) w fun e w' => e = .returned (.int .i64 (getv s pos n)) ∧ ∃ w1, Below w.heap.size w w1 ∧ w' = w1.setCell ⟨ab, 0, none⟩ (.int .i64 (pos + n)) := next_any s sb ab pos n w hl hS hA hw
theorem fillH_segs (s : List UInt8) (p : Int) : (fillH s p 10).segs = List.replicate (fillH s p 10).segs.length 0 := by
  have h9 : (fillH s p 9).segs = [] := by
    show (setF _ 8 _).segs = []
    rw [setF_segs _ _ _ (by decide)]; show (setF _ 7 _).segs = []
    rw [setF_segs _ _ _ (by decide)]; show (setF _ 6 _).segs = []
    rw [setF_segs _ _ _ (by decide)]; show (setF _ 5 _).segs = []
    rw [setF_segs _ _ _ (by decide)]; show (setF _ 4 _).segs = []
    rw [setF_segs _ _ _ (by decide)]; show (setF _ 3 _).segs = []
    rw [setF_segs _ _ _ (by decide)]; show (setF _ 2 _).segs = []
    rw [setF_segs _ _ _ (by decide)]; show (setF _ 1 _).segs = []
    rw [setF_segs _ _ _ (by decide)]; show (setF _ 0 _).segs = []
    rw [setF_segs _ _ _ (by decide)]; rfl
  have h : (fillH s p 10).segs = if 0 < getv s (p + nbs 9) (fldNb 9) then List.replicate (min (getv s (p + nbs 9) (fldNb 9)) 40).toNat 0 else (fillH s p 9).segs := rfl
  rw [h, h9]
  split <;> simp
theorem own_addr {W : World} {base n c : Nat} {A : Option Addr} {l : List Int} (h : EI.Own W base (.slice A n c) l) (hn : 0 < n) : ∃ g, A = some ⟨g, 0, none⟩ ∧ base ≤ g ∧ g < W.heap.size := by
  rcases h.2 with ⟨e, h0⟩ | ⟨g, cap, cur, e, hb, hg, -⟩
  · injection e with e1 e2 e3; omega
  · injection e with e1 e2 e3
    exact ⟨g, e1, hb, (Array.getElem?_eq_some_iff.1 hg).1⟩
section
attribute [local go_sem ↓] Go.wp_at_zero Go.wp_at_succ
set_option maxRecDepth 100000 in
set_option maxHeartbeats 8000000 in
theorem tget_any (s : List UInt8) (w : World) (hs : s.length ≤ 140737488351232) :
    Calls Try.prog 44 #[.string (bs s)] w fun e w' => Below w.heap.size w w' ∧
      ((∃ n L lb l, tableGet s = some (n, L) ∧ e = .returned (.tuple #[.int .i64 n, .slice (some ⟨lb, 0, none⟩) 16 16, .bool true]) ∧ l.map (·.d) = L ∧ l.length = 16 ∧ (∀ h ∈ l, h.d.segs.length ≤ 40) ∧ HReads w' (.slice (some ⟨lb, 0, none⟩) 16 16) l) ∨
       (tableGet s = none ∧ e = .returned (.tuple #[.int .i64 0, .slice none 0 0, .bool false]))) := by
  go_enter Try.func44, Try.ntmps44
  go_wp2_with fail
  have HS := Lib.hid hs
  have hS0 : Hid (((w.alloc (.cells #[.string (bs s)] 9)).alloc (.cells #[.int .i64 4] 3)).heap[w.heap.size]? = some (.cells #[.string (bs s)] 9 (0, 0))) := (Fr.two w #[.string (bs s)] #[.int .i64 4] 9 3).block (i := 0) rfl rfl
  have hA0 : Hid (((w.alloc (.cells #[.string (bs s)] 9)).alloc (.cells #[.int .i64 4] 3)).heap[w.heap.size + 1]? = some (.cells #[.int .i64 4] 3 (0, 0))) := (Fr.two w #[.string (bs s)] #[.int .i64 4] 9 3).block (i := 1) rfl rfl
  have hB0 : Hid (Below w.heap.size w ((w.alloc (.cells #[.string (bs s)] 9)).alloc (.cells #[.int .i64 4] 3))) := ((Below.refl _ _).alloc (Nat.le_refl _) _).alloc (by simp) _
  generalize (w.alloc (.cells #[.string (bs s)] 9)).alloc (.cells #[.int .i64 4] 3) = W0 at *
  refine (next_any s w.heap.size (w.heap.size + 1) 4 6 W0 hs hS0.out hA0.out (by decide)).mono ?_
  rintro e w1 ⟨rfl, wx, hb, rfl⟩
  have hS1 : Hid ((wx.setCell ⟨w.heap.size + 1, 0, none⟩ (.int .i64 (4 + 6))).heap[w.heap.size]? = some (.cells #[.string (bs s)] 9 (0, 0))) := by
    unfold Hid; rw [Below.heap_setCell _ _ _ _ (by simp)]; exact (hb.block _ (lt_of_block hS0.out)).trans hS0.out
  have hA1 : Hid ((wx.setCell ⟨w.heap.size + 1, 0, none⟩ (.int .i64 (4 + 6))).heap[w.heap.size + 1]? = some (.cells #[.int .i64 10] 3 (0, 0))) := heap_set ((hb.block _ (lt_of_block hA0.out)).trans hA0.out) 0 _
  have hB1 : Hid (Below w.heap.size w (wx.setCell ⟨w.heap.size + 1, 0, none⟩ (.int .i64 (4 + 6)))) := (hB0.out.trans (hb.mono hB0.out.size)).setCell (by simp) _
  generalize wx.setCell ⟨w.heap.size + 1, 0, none⟩ (.int .i64 (4 + 6)) = W1 at *
  clear hb hS0 hA0 hB0
  obtain ⟨C, hmk, hown⟩ := El.mk_row EH ⟨hd0, none, 0⟩ rfl 16 (by decide) (by decide) (w.heap.size + 2) W1 (lt_of_block hA1.out)
  have hlt := lt_of_block hA1.out
  have hG : GSt w (W1.alloc (.cells C 61)) s W1.heap.size 10 (List.replicate 16 ⟨hd0, none, 0⟩) :=
    ⟨hB1.out.alloc hB1.out.size _, by rw [Below.heap_alloc _ _ _ (by omega)]; exact hS1.out, by rw [Below.heap_alloc _ _ _ hlt]; exact hA1.out, hown, rfl, fun x hx => by
      obtain ⟨-, rfl⟩ := List.mem_replicate.1 hx
      exact ⟨El.Reads.nil _, (fun a e => by cases e), by decide, fun _ => rfl⟩⟩
  have HG := Lib.hid hG
  clear hG hown hlt hS1 hA1 hB1 hs
  have hmk' : (Instr.makeSlice 46 (.int .i64 16) (.int .i64 16)).run Try.prog W1 = .ok (.slice (some ⟨W1.heap.size, 0, none⟩) 16 16) (W1.alloc (.cells C 61)) := hmk
  clear hmk
  go_wp2_with fail
  clear hmk'
  generalize W1.alloc (.cells C 61) = W2 at *
  generalize W1.heap.size = lb at *
  have HGN := Lib.hid (getv_bd s 4 6)
  generalize hnum : getv s 4 6 = num at *
  go_loopw [21] (fun i wr => ∃ (k : Nat) (l : List HM), k ≤ 16 ∧ i = .int .i64 k ∧ GSt w wr s lb (houseAt k) l ∧ (∀ j, k ≤ j → j < 16 → l[j]? = some ⟨hd0, none, 0⟩) ∧ (∀ j, j < k → l[j]?.map (·.d) = some (pHouse s j))) (fun i _ => 16 - (intOf i).toNat)
  case atStart => exact ⟨0, _, by omega, rfl, HG.out, fun j _ hj => by rw [List.getElem?_replicate, if_pos hj], fun j hj => by omega⟩
  clear HG
  case round =>
    obtain ⟨k, l, hk, rfl, hg, hz, hd⟩ := hrel
    obtain ⟨wk, rfl⟩ : ∃ wk, wk = wr := ⟨wr, rfl⟩
    have HG := Lib.hid hg
    have HZ := Lib.hid hz
    have HD := Lib.hid hd
    clear hg hz hd
    by_cases hlt : k < 16
    · have HK : Hid (k < l.length) := by unfold Hid; rw [HG.out.len]; exact hlt
      go_wp2_with fail
      refine (fields_any _).mono ?_
      rintro e w3 ⟨hb3, fb, g, hfb, hgs, hF, rfl⟩
      have HG3 := Lib.hid (HG.out.below hb3)
      have HF3 := Lib.hid hF
      have HFB : Hid (lb < fb ∧ ∀ i, i < 9 → lb < g i) := ⟨Nat.lt_of_lt_of_le HG.out.lt.2 hfb, fun i hi => Nat.lt_of_lt_of_le HG.out.lt.2 (hgs i hi)⟩
      clear hb3 hF hfb hgs HG
      go_wp2_with fail
      go_loopw [26] (fun i wi => ∃ (q : Nat) (x : HM), q ≤ 10 ∧ i = .int .i64 q ∧ x.d = fillH s (houseAt k) q ∧ GSt w wi s lb (houseAt k + nbs q) (l.set k x) ∧ FldSt wi fb g) (fun i _ => 10 - (intOf i).toNat)
      case atStart => exact ⟨0, ⟨hd0, none, 0⟩, by omega, rfl, rfl, by
        rw [show nbs 0 = 0 from rfl, Int.add_zero, show l.set k ⟨hd0, none, 0⟩ = l from ?_]
        · exact HG3.out
        · have := HZ.out k (Nat.le_refl _) hlt
          obtain ⟨h1, h2⟩ := List.getElem?_eq_some_iff.1 this
          rw [← h2]; exact List.set_getElem_self h1, HF3.out⟩
      clear HG3 HF3
      case round =>
        obtain ⟨q, x, hq, rfl, hx, hg, hF⟩ := hrel
        have HX := Lib.hid hx
        have HG4 := Lib.hid hg
        have HF4 := Lib.hid hF
        clear hx hg hF
        by_cases hql : q < 10
        · obtain ⟨f, cap, f2, cap2, h1, h2, h3, hcf, hset⟩ := fld_set g q hql
          have HSET := Lib.hid hset
          have HCF := Lib.hid hcf
          have e0 : wr.cell? ⟨fb, q * 3, none⟩ = some (.int .i64 (fldNb q)) := by rw [cell_of_row _ _ _ _ _ _ HF4.out.1, Nat.mul_comm]; exact h1
          have e1 : wr.cell? ⟨fb, q * 3 + 1, none⟩ = some (.func (.func f) #[] cap) := by rw [cell_of_row _ _ _ _ _ _ HF4.out.1, Nat.mul_comm]; exact h2
          have e2 : wr.cell? ⟨fb, q * 3 + 2, none⟩ = some (.func (.func f2) #[] cap2) := by rw [cell_of_row _ _ _ _ _ _ HF4.out.1, Nat.mul_comm]; exact h3
          clear hset h1 h2 h3 hcf
          go_upto_region 11 with fail
          clear e0 e1 e2
          have hAl := (Below.refl wr.heap.size wr).alloc (Nat.le_refl _) (.cells #[.int .i64 (fldNb q), .func (.func f) #[] cap, .func (.func f2) #[] cap2] 134)
          have hT := heap_alloc_new wr (.cells #[.int .i64 (fldNb q), .func (.func f) #[] cap, .func (.func f2) #[] cap2] 134)
          have hTl := HG4.out.lt
          generalize hpb : wr.heap.size = tb at *
          generalize wr.alloc (.cells #[.int .i64 (fldNb q), .func (.func f) #[] cap, .func (.func f2) #[] cap2] 134) = W4 at *
          subst hpb
          have HG5 := Lib.hid (HG4.out.below hAl).drew
          have HF5 : Hid (FldSt W4.drew fb g) := HF4.out.below hAl.drew
          have HT5 : Hid (W4.drew.heap[wr.heap.size]? = some (.cells #[.int .i64 (fldNb q), .func (.func f) #[] cap, .func (.func f2) #[] cap2] 134 (0, 0))) := hT
          have HTL := Lib.hid hTl
          have eT : ∀ j : Nat, W4.cell? ⟨wr.heap.size, j, none⟩ = _ := fun j => cell_of_row _ _ j _ _ _ hT
          have HNB := Lib.hid (nbs_bd q)
          have HSF := Lib.hid (show 0 ≤ fldNb q ∧ fldNb q ≤ 6 by unfold fldNb; split <;> decide)
          have HWR : Hid (IntKind.i64.wrap (houseAt k + nbs q + fldNb q) = houseAt k + nbs q + fldNb q) := by
            unfold Hid; rw [IntKind.wrap_i64]; have := HNB.out; have := HSF.out; unfold houseAt; omega
          have HI : Hid ((l.set k x)[k]? = some x) := List.getElem?_set_self HK.out
          have HV : Hid (getv s (houseAt k + nbs q) (fldNb q) ≤ 9223372036854775807) := by unfold Hid; have := (getv_bd s (houseAt k + nbs q) (fldNb q)).2; omega
          clear hT hTl hAl
          go_region_law ((first
            | (refine step_clos 102 cf102 _ _ _ (by rfl) (by rfl) #[.pointer (some ⟨w.heap.size, 0, none⟩), .pointer (some ⟨w.heap.size + 1, 0, none⟩)] (by rfl) _ (by rfl) _ (next_clos s w.heap.size (w.heap.size + 1) (houseAt k + nbs q) (fldNb q) _ HS.out HG5.out.str HG5.out.place HWR.out) ?_; rintro e v1 ⟨rfl, wx, hb, rfl⟩; refine ⟨_, rfl, ?_⟩; have HG6 := Lib.hid ((HG5.out.below hb).moved (houseAt k + nbs q + fldNb q)); have HT6 := Lib.hid ((Below.heap_setCell wx ⟨w.heap.size + 1, 0, none⟩ (.int .i64 (houseAt k + nbs q + fldNb q)) wr.heap.size (by have := HTL.out; simp; omega)).trans ((hb.block _ (lt_of_block HT5.out)).trans HT5.out)); have HF6 := Lib.hid ((HF5.out.below hb).kept (grown_cell wx ⟨w.heap.size + 1, 0, none⟩ (.int .i64 (houseAt k + nbs q + fldNb q))) (by have := HTL.out; have := HFB.out.1; simp; omega) (fun i hi => by have := HTL.out; have := HFB.out.2 i hi; simp; omega)); generalize wx.setCell ⟨w.heap.size + 1, 0, none⟩ (.int .i64 (houseAt k + nbs q + fldNb q)) = v1 at *; clear eT hb; have eT : ∀ j : Nat, v1.cell? ⟨wr.heap.size, j, none⟩ = _ := fun j => cell_of_row _ _ j _ _ _ HT6.out)
            | (refine step_clos f2 HCF.out _ _ _ (by rfl) (by rfl) cap2 (by rfl) _ (by rfl) _ (HSET.out w _ fb s lb (houseAt k + nbs q + fldNb q) (l.set k x) k x (getv s (houseAt k + nbs q) (fldNb q)) HG6.out HF6.out HI.out HV.out) ?_; rintro e v2 ⟨rfl, x', hx', hg', hgr⟩; refine ⟨_, rfl, ?_⟩; have HX7 := Lib.hid hx'; have HG7 := Lib.hid hg'; have HF7 := Lib.hid (HF6.out.kept hgr (by have := HFB.out.1; omega) (fun i hi => by have := HFB.out.2 i hi; omega)); clear hx' hg' hgr)
            | fail))
          all_goals
            go_wp2_with fail
            go_roundw
            case rel => exact ⟨q + 1, x', by omega, by go_num, by rw [HX7.out, HX.out]; rfl, by have := HG7.out; rw [List.set_set] at this; show GSt _ _ _ _ (houseAt k + (nbs q + fldNb q)) _; rw [← Int.add_assoc]; exact this, HF7.out⟩
            case measure => simp only [intOf]; omega
        · have hq10 : q = 10 := by omega
          have HGx : Hid (GSt w wr s lb (houseAt k + 21) (l.set k x)) := by have := HG4.out; rw [hq10] at this; exact this
          have HXx : Hid (x.d = fillH s (houseAt k) 10) := by have := HX.out; rw [hq10] at this; exact this
          have HI : Hid ((l.set k x)[k]? = some x) := List.getElem?_set_self HK.out
          clear HG4 HX HF4 hq10
          obtain ⟨d, XA, xc⟩ := x
          simp only at HXx
          have hsg := HGx.out.segs _ (List.mem_of_getElem? HI.out)
          have hc9 := (HGx.out.at' k _ HI.out 9 _ rfl).1
          simp only at hc9
          have HSG := Lib.hid hsg
          have HD0 : Hid (segsPre s (houseAt k + 21) d.segs.length 0 = d.segs) := by unfold Hid; rw [segsPre_zero, HXx.out]; exact (fillH_segs s (houseAt k)).symm
          have hn40 : d.segs.length ≤ 40 := hsg.2.2.1
          clear hsg
          go_wp2_with fail
          refine (clone_any XA xc d.segs _ HSG.out.1 HSG.out.2.2.2 (by omega)).mono ?_
          rintro e w5 ⟨A2, c2, rfl, hown, hb⟩
          have HG5 := Lib.hid (HGx.out.below hb)
          have HO5 : Hid (EI.Own w5 wr.heap.size (.slice A2 d.segs.length c2) (segsPre s (houseAt k + 21) d.segs.length 0)) := by unfold Hid; rw [HD0.out]; exact hown
          have HSB : Hid (∀ y ∈ l.set k ⟨d, XA, xc⟩, ∀ a, y.A = some a → a.block < wr.heap.size) := fun y hy a e => ((HGx.out.segs y hy).2.1 a e).2
          have HLB : Hid (lb < wr.heap.size) := HGx.out.lt.2
          have HW2 : Hid (w.heap.size + 2 ≤ wr.heap.size) := by unfold Hid; have := HGx.out.lt; omega
          generalize hB3 : wr.heap.size = B3 at *
          clear hb hown HGx HSG HD0 hc9 hB3
          go_wp2_with fail
          go_loopw [47] (fun i wi => ∃ j : Nat, j ≤ 40 ∧ i = .int .i64 j ∧ GSt w wi s lb (houseAt k + 21 + 2 * j) (l.set k ⟨d, XA, xc⟩) ∧ EI.Own wi B3 (.slice A2 d.segs.length c2) (segsPre s (houseAt k + 21) d.segs.length j)) (fun i _ => 40 - (intOf i).toNat)
          case atStart => exact ⟨0, by omega, rfl, by rw [show houseAt k + 21 + 2 * ((0 : Nat) : Int) = houseAt k + 21 by omega]; exact HG5.out, HO5.out⟩
          clear HG5 HO5
          case round =>
            obtain ⟨j, hj, rfl, hg, ho⟩ := hrel
            have HG6 := Lib.hid hg
            have HO6 := Lib.hid ho
            clear hg ho
            by_cases hjl : j < 40
            · have HWR : Hid (IntKind.i64.wrap (houseAt k + 21 + 2 * (j : Int) + 2) = houseAt k + 21 + 2 * (j : Int) + 2) := by
                unfold Hid; rw [IntKind.wrap_i64]; unfold houseAt; omega
              go_wp2_with fail
              refine (next_any s w.heap.size (w.heap.size + 1) (houseAt k + 21 + 2 * (j : Int)) 2 _ HS.out HG6.out.str HG6.out.place HWR.out).mono ?_
              rintro e w7 ⟨rfl, wx, hb, rfl⟩
              have HG7 := Lib.hid ((HG6.out.below hb).moved (houseAt k + 21 + 2 * (j : Int) + 2))
              have HO7 := Lib.hid ((HO6.out.below hb).set (p := ⟨w.heap.size + 1, 0, none⟩) (by have := HW2.out; simp; omega) (.int .i64 (houseAt k + 21 + 2 * (j : Int) + 2)))
              generalize wx.setCell ⟨w.heap.size + 1, 0, none⟩ (.int .i64 (houseAt k + 21 + 2 * (j : Int) + 2)) = w7 at *
              clear hb HG6 HO6
              have HPJ : Hid (houseAt k + 21 + 2 * ((j + 1 : Nat) : Int) = houseAt k + 21 + 2 * (j : Int) + 2) := by unfold Hid; omega
              by_cases hjn : j < d.segs.length
              · obtain ⟨gb, rfl, hgb, hgl⟩ := own_addr HO7.out (by omega)
                obtain ⟨y, hy⟩ : ∃ y, (segsPre s (houseAt k + 21) d.segs.length j)[j]? = some y := ⟨_, List.getElem?_eq_getElem (by rw [segsPre_len]; exact hjn)⟩
                have hat := HO7.out.atAddr (segsPre_len _ _ _ _).symm j y hy 0 _ rfl
                have hcj : w7.cell? ⟨gb, j, none⟩ = some (.int .i64 y) := by simpa [EI] using hat.1
                have hfj : w7.frozen? ⟨gb, j, none⟩ = false := by simpa [EI] using hat.2
                clear hat
                have HG8 := Lib.hid (HG7.out.far HSB.out HLB.out (p := ⟨gb, j, none⟩) hgb (.int .i64 (getv s (houseAt k + 21 + 2 * (j : Int)) 2)))
                have HO8 : Hid (EI.Own (w7.setCell ⟨gb, j, none⟩ (.int .i64 (getv s (houseAt k + 21 + 2 * (j : Int)) 2))) B3 (.slice (some ⟨gb, 0, none⟩) d.segs.length c2) (segsPre s (houseAt k + 21) d.segs.length (j + 1))) := by
                  have ho := HO7.out
                  have ho2 : EI.Own w7 B3 (.slice (some ⟨gb, 0, none⟩) (segsPre s (houseAt k + 21) d.segs.length j).length c2) (segsPre s (houseAt k + 21) d.segs.length j) := by rw [segsPre_len]; exact ho
                  have h3 := ho2.store j 0 _ (getv s (houseAt k + 21 + 2 * (j : Int)) 2) (.int .i64 (getv s (houseAt k + 21 + 2 * (j : Int)) 2)) (List.getElem?_eq_getElem (by rw [segsPre_len]; exact hjn)) (by decide) rfl
                  unfold Hid
                  rw [segsPre_succ _ _ _ _ hjn]
                  rw [List.length_set, segsPre_len] at h3
                  have e : j * EI.size + 0 = j := by simp [EI]
                  rw [e] at h3
                  exact h3
                clear HG7 HO7
                go_wp2_with fail
                go_roundw
                case rel => exact ⟨j + 1, by omega, by go_num, by rw [HPJ.out]; exact HG8.out, HO8.out⟩
                case measure => simp only [intOf]; omega
              · go_wp2_with fail
                go_roundw
                case rel => exact ⟨j + 1, by omega, by go_num, by rw [HPJ.out]; exact HG7.out, by rw [segsPre_skip _ _ _ _ (by omega)]; exact HO7.out⟩
                case measure => simp only [intOf]; omega
            · have hj40 : j = 40 := by omega
              have HO9 : Hid (EI.Own wr B3 (.slice A2 d.segs.length c2) (segsOf s (houseAt k + 21) d.segs.length)) := by
                unfold Hid; rw [← segsPre_done s (houseAt k + 21) d.segs.length j (by omega)]; exact HO6.out
              have HP9 : Hid (houseAt k + 21 + 2 * (j : Int) = houseAt (k + 1)) := by unfold Hid houseAt; omega
              have hc9 := (HG6.out.at' k _ HI.out 9 _ rfl).1
              have hf9 := (HG6.out.at' k _ HI.out 9 _ rfl).2
              have HN40 := Lib.hid hn40
              have HG9 := Lib.hid (HG6.out.store k ⟨d, XA, xc⟩ ⟨{ d with segs := segsOf s (houseAt k + 21) d.segs.length }, A2, c2⟩ HI.out 9 (by decide) (.slice A2 d.segs.length c2) (by simp [EH, encH, segsOf]) (by
                have hln : (segsOf s (houseAt k + 21) d.segs.length).length = d.segs.length := by simp [segsOf]
                simp only [hln]
                refine ⟨?_, ?_, HN40.out, ?_⟩
                · have := HO9.out.reads
                  rw [← hln] at this ⊢; simpa [hln] using this
                · intro a e
                  subst e
                  have := HO9.out.lt a.block rfl
                  have := HLB.out
                  exact ⟨by omega, by omega⟩
                · intro e
                  subst e
                  rcases HO9.out.2 with ⟨e, h0⟩ | ⟨g, cap, cur, e, -⟩
                  · injection e
                  · injection e with e1; cases e1))
              clear hj40 HG6 HO6
              go_wp2_with fail
              go_roundw
              case rel => exact ⟨k + 1, l.set k ⟨{ d with segs := segsOf s (houseAt k + 21) d.segs.length }, A2, c2⟩, by omega, by go_num, by have := HG9.out; rw [List.set_set, HP9.out] at this; exact this, fun j h1 h2 => by rw [List.getElem?_set_ne (by omega)]; exact HZ.out j (by omega) h2, fun j h1 => by
                rcases Nat.lt_or_ge j k with h | h
                · rw [List.getElem?_set_ne (by omega)]; exact HD.out j h
                · obtain rfl : j = k := by omega
                  rw [List.getElem?_set_self HK.out, Option.map_some]
                  show some { d with segs := segsOf s (houseAt j + 21) d.segs.length } = some (pHouse s j)
                  rw [HXx.out]; rfl⟩
              case measure => simp only [intOf]; omega
    · have hk16 : k = 16 := by omega
      have HT : Hid (l.map (·.d) = pTab s) := by
        unfold Hid pTab
        apply List.ext_getElem?
        intro j
        rw [List.getElem?_map, List.getElem?_map]
        rcases Nat.lt_or_ge j 16 with h | h
        · rw [HD.out j (by omega), List.getElem?_range h]; rfl
        · rw [List.getElem?_eq_none (by rw [HG.out.len]; exact h), List.getElem?_eq_none (by rw [List.length_range]; exact h)]; rfl
      have HP5 : houseAt k = houseAt 16 := by rw [hk16]
      clear hk16 HZ HD
      have HS40 : Hid (∀ h ∈ l, h.d.segs.length ≤ 40) := fun h hh => (HG.out.segs h hh).2.2.1
      have HL16 := Lib.hid HG.out.len
      clear HP5
      go_wp2_with fail
      cases hr : tablePut num (pTab s) with
      | none =>
        have HN : Hid (tableGet s = none) := by unfold Hid tableGet; rw [hnum, hr, if_neg (by simp)]
        refine (tput_val num _ l _ HG.out.reads (by rw [HL16.out]; decide) (fun h hh => by have := HS40.out h hh; omega) none (by rw [HT.out, hr])).mono ?_
        rintro e w9 ⟨rfl, hb⟩
        have HB := Lib.hid (HG.out.bel.trans (hb.mono HG.out.bel.size))
        clear hb HG
        unfold putAns
        go_wp2_with fail
        refine bodyPost_ret (v := .tuple #[.int .i64 0, .slice none 0 0, .bool false]) (by simp [results, Try.results44, go_sem]) rfl ⟨HB.out, .inr ⟨HN.out, rfl⟩⟩
      | some t =>
        refine (tput_val num _ l _ HG.out.reads (by rw [HL16.out]; decide) (fun h hh => by have := HS40.out h hh; omega) (some t) (by rw [HT.out, hr])).mono ?_
        rintro e w9 ⟨rfl, hb⟩
        have HB := Lib.hid (HG.out.bel.trans (hb.mono HG.out.bel.size))
        have HG9 := Lib.hid (HG.out.below hb)
        have e1 : w9.cell? ⟨w.heap.size, 0, none⟩ = some (.string (bs s)) := cell_of_row _ _ 0 _ _ _ HG9.out.str
        clear hb HG
        unfold putAns
        simp only [Option.getD_some, Option.isSome_some]
        by_cases hts : t = s
        · have HN : Hid (tableGet s = some (num, pTab s)) := by unfold Hid tableGet; rw [hnum, hr, if_pos (by rw [hts])]
          have hne : bs t = bs s := by rw [hts]
          clear hr hts
          go_wp2_with fail
          refine bodyPost_ret (v := .tuple #[.int .i64 num, .slice (some ⟨lb, 0, none⟩) 16 16, .bool true]) (by simp [results, Try.results44, go_sem]) rfl ⟨HB.out, .inl ⟨num, pTab s, lb, l, HN.out, rfl, HT.out, HL16.out, HS40.out, HG9.out.reads⟩⟩
        · have HN : Hid (tableGet s = none) := by unfold Hid tableGet; rw [hnum, hr, if_neg (by simp; exact hts)]
          have hne : (!(bs t).toList == (bs s).toList) = true := by
            rw [ByteArray.toList_eq, ByteArray.toList_eq, bs_data, bs_data, Bool.not_eq_true']
            exact beq_eq_false_iff_ne.2 hts
          clear hr hts
          go_wp2_with fail
          refine bodyPost_ret (v := .tuple #[.int .i64 0, .slice none 0 0, .bool false]) (by simp [results, Try.results44, go_sem]) rfl ⟨HB.out, .inr ⟨HN.out, rfl⟩⟩
end
end Go.Proofs.Ytjoplgdcpihmaaa
