/- Not too much; houses in new memory (few, copied). -/
import Derived.Test.YtjoplgdcpihmaaaMadeA
import Derived.Test.YtjoplgdcpihmaaaTabD
import Derived.Test.YtjoplgdcpihmaaaOpen
namespace Go.Proofs.Ytjoplgdcpihmaaa
open Go.RowKit
def few6B (l : List HM) : Bool := decide (l.length ≤ 20 ∧ ∀ h ∈ l, h.d.segs.length ≤ 60)
theorem few6_iff {l : List HM} : few6B l = true ↔ l.length ≤ 20 ∧ ∀ h ∈ l, h.d.segs.length ≤ 60 := by unfold few6B; simp
section
set_option maxRecDepth 100000 in
set_option maxHeartbeats 4000000 in
theorem few6_any (v : Value) (l : List HM) (w : World) (hr : HReads w v l) :
    Calls Try.prog 39 #[v] w fun e w' => e = .returned (.bool (few6B l)) ∧ w = w' := by
  have hr' := hr.1
  obtain ⟨A, c, rfl, hc, -⟩ := hr'
  have HR := Lib.hid hr
  clear hr
  go_enter Try.func39, Try.ntmps39
  go_wp2
  go_loop [3] (fun i => ∃ k : Nat, k ≤ 20 ∧ k ≤ l.length ∧ i = .int .i64 k ∧ ∀ (j : Nat) (x : HM), j < k → l[j]? = some x → x.d.segs.length ≤ 60) (fun i => 20 - (intOf i).toNat)
  case atStart => exact ⟨0, by omega, by omega, rfl, fun j x hj => by omega⟩
  case round =>
    obtain ⟨k, hk20, hkl, rfl, hok⟩ := hrel
    have HOK := Lib.hid hok
    clear hok
    by_cases hlt : k < l.length
    · by_cases h20 : k < 20
      · obtain ⟨x, hx⟩ : ∃ x, l[k]? = some x := ⟨_, List.getElem?_eq_getElem hlt⟩
        obtain ⟨b, o, c', hv, hbw, hri, a0, a1, a2, a3, a4, a5, a6, a7, a8, a9⟩ := HR.out.cells k x hx
        simp only [Value.slice.injEq] at hv
        obtain ⟨rfl, -, rfl⟩ := hv
        have HX := Lib.hid hx
        clear hx hri a0 a1 a2 a3 a4 a5 a6 a7 a8
        by_cases h60 : x.d.segs.length ≤ 60
        · have HO2 : Hid (∀ (j : Nat) (y : HM), j < k + 1 → l[j]? = some y → y.d.segs.length ≤ 60) := fun j y hj hy => by
            rcases Nat.lt_or_ge j k with h | h
            · exact HOK.out j y h hy
            · obtain rfl : j = k := by omega
              have := HX.out
              rw [hy] at this; injection this with this; subst this; exact h60
          go_wp2
          go_round
          case rel => exact ⟨k + 1, by omega, by omega, by go_num, HO2.out⟩
          case measure => simp only [intOf]; omega
        · have HF : Hid (few6B l = false) := by
            unfold Hid
            rw [Bool.eq_false_iff]; intro h
            exact h60 ((few6_iff.1 h).2 x (List.mem_of_getElem? HX.out))
          go_wp2
          go_ret
          exact ⟨ret_bool HF.out.symm, rfl⟩
      · have hll : ¬ (l.length : Int) ≤ 20 ∨ (l.length : Int) ≤ 20 := by omega
        rcases hll with hll | hll
        · have HF : Hid (few6B l = false) := by
            unfold Hid
            rw [Bool.eq_false_iff]; intro h
            have := (few6_iff.1 h).1; omega
          go_wp2
          go_ret
          exact ⟨ret_bool HF.out.symm, rfl⟩
        · have hk : k = 20 := by omega
          omega
    · have hke : k = l.length := by omega
      have HE : Hid (few6B l = true) := few6_iff.2 ⟨by omega, fun h hh => by
        obtain ⟨j, hj⟩ := List.getElem?_of_mem hh
        exact HOK.out j h (by have := (List.getElem?_eq_some_iff.1 hj).1; omega) hj⟩
      have hl20 : (l.length : Int) ≤ 20 := by omega
      clear hke
      go_wp2
      go_ret
      exact ⟨ret_bool HE.out.symm, rfl⟩
end
/-- A house pushed behind the others. -/
theorem HSt.push {W W' : World} {base : Nat} {v v' : Value} {l : List HM} {y : HM} (h : HSt W base v l) (hg : W.grownBy W' v.ownBlock) (ho : EH.Own W' base v' (l ++ [y])) (hat : v'.ownBlock = v.ownBlock ∨ ∃ k, v'.ownBlock = some k ∧ W.heap.size ≤ k)
    (hy : EI.Own W base (.slice y.A y.d.segs.length y.c) y.d.segs) (hoff : ∀ a, y.A = some a → some a.block ≠ v.ownBlock) (hap : ∀ x ∈ l, ∀ a b, x.A = some a → y.A = some b → a.block ≠ b.block) : HSt W' base v' (l ++ [y]) := by
  have key : ∀ x : HM, EI.Own W base (.slice x.A x.d.segs.length x.c) x.d.segs → (∀ a, x.A = some a → some a.block ≠ v.ownBlock) → EI.Own W' base (.slice x.A x.d.segs.length x.c) x.d.segs ∧ ∀ a, x.A = some a → some a.block ≠ v'.ownBlock := by
    intro x hx hxo
    refine ⟨hx.kept hg ?_, fun a e => ?_⟩
    · rw [own_block_of]
      cases hA : x.A with
      | none => exact .inl rfl
      | some a => exact .inr (hxo a hA)
    · rcases hat with hat | ⟨k, hk, hk2⟩
      · rw [hat]; exact hxo a e
      · rw [hk]; intro e2
        have := (hx.lt a.block (by rw [own_block_of, e]; rfl)).2
        injection e2 with e2; omega
  refine ⟨ho, fun x hx => ?_, fun x hx => ?_, fun i j x z a b hij hx hz ha hb => ?_⟩
  · rcases List.mem_append.1 hx with hx | hx
    · exact (key x (h.segs x hx) (h.off x hx)).1
    · obtain rfl : x = y := by simpa using hx
      exact (key x hy hoff).1
  · rcases List.mem_append.1 hx with hx | hx
    · exact (key x (h.segs x hx) (h.off x hx)).2
    · obtain rfl : x = y := by simpa using hx
      exact (key x hy hoff).2
  · have hil := (List.getElem?_eq_some_iff.1 hz).1
    rw [List.length_append] at hil
    simp only [List.length_singleton] at hil
    rw [List.getElem?_append_left (by omega)] at hx
    rcases Nat.lt_or_ge j l.length with hjl | hjl
    · rw [List.getElem?_append_left hjl] at hz
      exact h.apart i j x z a b hij hx hz ha hb
    · obtain rfl : j = l.length := by omega
      rw [List.getElem?_append_right (Nat.le_refl _)] at hz
      simp at hz
      subst hz
      exact hap x (List.mem_of_getElem? hx) a b ha hb
section
attribute [local go_sem ↓] Go.wp_at_zero Go.wp_at_succ
set_option maxRecDepth 100000 in
set_option maxHeartbeats 4000000 in
theorem copied6_any (v : Value) (l : List HM) (w : World) (hr : HReads w v l) (hn : ∀ x ∈ l, x.A = none → x.c = 0) (hl : l.length ≤ 20) (hls : ∀ h ∈ l, h.d.segs.length ≤ 60) :
    Calls Try.prog 42 #[v] w fun e w' => Below w.heap.size w w' ∧ ∃ A l' c, e = .returned (.slice A l'.length c) ∧ l'.map (·.d) = l.map (·.d) ∧ HReads w' (.slice A l'.length c) l' := by
  have hr' := hr.1
  obtain ⟨A, c, rfl, hc, -⟩ := hr'
  have HR := Lib.hid hr
  have HN := Lib.hid hn
  have HLS := Lib.hid hls
  have HB0 := Lib.hid (Below.refl w.heap.size w)
  clear hr hn hls
  go_enter Try.func42, Try.ntmps42
  go_wp2
  go_loopw [3, 4] (fun m i wr => ∃ (k : Nat) (l' : List HM) (B : Option Addr) (b : Nat), k ≤ l.length ∧ i = .int .i64 k ∧ m = .slice B l'.length b ∧ l'.map (·.d) = (l.take k).map (·.d) ∧ HSt wr w.heap.size (.slice B l'.length b) l' ∧ Below w.heap.size w wr) (fun _ i _ => l.length - (intOf i).toNat)
  case atStart => exact ⟨0, [], none, 0, by omega, rfl, rfl, rfl, ⟨El.Own.nil _ _, (fun x hx => by cases hx), (fun x hx => by cases hx), (fun i j x y a b _ hx => by simp at hx)⟩, HB0.out⟩
  clear HB0
  case round =>
    obtain ⟨k, l', B, bc, hk, rfl, rfl, hd, hs, hb⟩ := hrel
    have HDD := Lib.hid hd
    have HS := Lib.hid hs
    have HB := Lib.hid hb
    have hll : l'.length = k := by
      have := congrArg List.length hd
      simp only [List.length_map, List.length_take] at this
      omega
    have HLL := Lib.hid hll
    clear hd hs hb hll
    by_cases hlt : k < l.length
    · obtain ⟨x, hx⟩ : ∃ x, l[k]? = some x := ⟨_, List.getElem?_eq_getElem hlt⟩
      obtain ⟨b, o, c', hv, hbw, hri, a0, a1, a2, a3, a4, a5, a6, a7, a8, a9⟩ := (HR.out.below HB.out).cells k x hx
      simp only [Value.slice.injEq] at hv
      obtain ⟨rfl, -, rfl⟩ := hv
      have HRI := Lib.hid hri
      have HX := Lib.hid hx
      have hsl := HLS.out x (List.mem_of_getElem? hx)
      have HSL := Lib.hid hsl
      clear hri hx
      go_upto_region 6 with fail
      have FX := Lib.hid (Fr.one wr #[.int .i64 x.d.st, .int .i64 x.d.gn, .int .i64 x.d.x.sg, .int .i64 x.d.x.hb, .int .i64 x.d.x.sb, .int .i64 x.d.x.hn, .int .i64 x.d.x.sn, .int .i64 x.d.x.gr, .int .i64 x.d.x.bu, .slice x.A x.d.segs.length x.c] 61)
      have HRX := Lib.hid (HRI.out.below (Fr.one wr #[.int .i64 x.d.st, .int .i64 x.d.gn, .int .i64 x.d.x.sg, .int .i64 x.d.x.hb, .int .i64 x.d.x.sb, .int .i64 x.d.x.hn, .int .i64 x.d.x.sn, .int .i64 x.d.x.gr, .int .i64 x.d.x.bu, .slice x.A x.d.segs.length x.c] 61).bel)
      have hsz : (wr.alloc (.cells #[.int .i64 x.d.st, .int .i64 x.d.gn, .int .i64 x.d.x.sg, .int .i64 x.d.x.hb, .int .i64 x.d.x.sb, .int .i64 x.d.x.hn, .int .i64 x.d.x.sn, .int .i64 x.d.x.gr, .int .i64 x.d.x.bu, .slice x.A x.d.segs.length x.c] 61)).heap.size = wr.heap.size + 1 := by simp
      generalize wr.alloc (.cells #[.int .i64 x.d.st, .int .i64 x.d.gn, .int .i64 x.d.x.sg, .int .i64 x.d.x.hb, .int .i64 x.d.x.sb, .int .i64 x.d.x.hn, .int .i64 x.d.x.sn, .int .i64 x.d.x.gr, .int .i64 x.d.x.bu, .slice x.A x.d.segs.length x.c] 61) = W1 at *
      clear a0 a1 a2 a3 a4 a5 a6 a7 a8 a9 HRI
      have HSZ := Lib.hid hsz
      clear hsz
      have e9 : W1.cell? ⟨wr.heap.size, 9, none⟩ = some (.slice x.A x.d.segs.length x.c) := FX.out.cells (i := 0) rfl rfl 9
      have f9 : W1.frozen? ⟨wr.heap.size, 9, none⟩ = false := FX.out.frees (i := 0) rfl rfl 9
      have HBW := Lib.hid (Below.refl W1.heap.size W1)
      go_upto_region 7 with (at_builtin; refine EI.app_all (w0 := W1) rfl _ _ rfl W1.heap.size (.slice none 0 0) _ [] x.d.segs rfl (El.Own.nil _ _) rfl HRX.out ?cn ?cb ?cm (Nat.le_refl _) HBW.out ?_; (case cn => intro c e; injection e with e1 e2 e3; rw [← e3]; exact HN.out x (List.mem_of_getElem? HX.out) e1); (case cb => have := HSL.out; simp [EI]; omega); (case cm => have := HSL.out; simp; omega); intro v' w1 ho hb hg; rw [List.nil_append] at ho; obtain ⟨A2, c2, rfl, -⟩ := ho.reads; have HO1 := Lib.hid ho; have FX1 := Lib.hid (FX.out.below hb); have f9 : w1.frozen? ⟨wr.heap.size, 9, none⟩ = false := FX1.out.frees (i := 0) rfl rfl 9; have e9 : w1.cell? ⟨wr.heap.size, 9, none⟩ = some (.slice x.A x.d.segs.length x.c) := FX1.out.cells (i := 0) rfl rfl 9; clear ho hb hg)
      have FX3 := Lib.hid (FX1.out.set (i := 0) (b := wr.heap.size) rfl rfl 9 (.slice A2 x.d.segs.length c2))
      have hge : wr.heap.size + 1 ≤ W1.heap.size := by have := HSZ.out; omega
      have hO3 := HO1.out.set (p := ⟨wr.heap.size, 9, none⟩) (by show wr.heap.size < _; omega) (.slice A2 x.d.segs.length c2)
      have HO3 := Lib.hid hO3
      have HGE := Lib.hid hge
      clear hO3 hge e9 f9 HO1 FX1 FX HRX
      generalize w1.setCell ⟨wr.heap.size, 9, none⟩ (.slice A2 x.d.segs.length c2) = W3 at *
      have c' : ∀ j : Nat, W3.cell? ⟨wr.heap.size, j, none⟩ = (#[.int .i64 x.d.st, .int .i64 x.d.gn, .int .i64 x.d.x.sg, .int .i64 x.d.x.hb, .int .i64 x.d.x.sb, .int .i64 x.d.x.hn, .int .i64 x.d.x.sn, .int .i64 x.d.x.gr, .int .i64 x.d.x.bu, .slice A2 x.d.segs.length c2] : Array Value)[j]? := fun j => by
        have := FX3.out.cells (i := 0) (b := wr.heap.size) rfl rfl j
        simpa only [List.setIfInBounds_toArray, List.set_cons_zero, List.set_cons_succ] using this
      have HS3 := Lib.hid (HS.out.below FX3.out.bel)
      have HB3 := Lib.hid (HB.out.trans (FX3.out.bel.mono HB.out.size))
      have HLT : Hid (∀ k2, (Value.slice B l'.length bc).ownBlock = some k2 → k2 < wr.heap.size) := fun k2 e => (HS.out.own.lt k2 e).2
      have HLX : Hid (∀ y ∈ l', ∀ a, y.A = some a → a.block < wr.heap.size) := fun y hy a e => (HS.out.seg_block hy e).2
      have HBB : Hid (Below W3.heap.size W3 W3) := Below.refl _ _
      have HLQ : Hid (l'.length ≤ 20) := by have := HLL.out; unfold Hid; omega
      clear HS
      go_wp2_with (at_builtin; refine EH.app (w0 := w) rfl _ _ rfl w.heap.size (.slice B l'.length bc) l' ⟨x.d, A2, c2⟩ rfl HS3.out.own rfl _ rfl ?cb ?cm HB3.out.size HB3.out ?_; (case cb => have := HLQ.out; simp only [EH]; omega); (case cm => have := HLQ.out; omega); intro v' w4 ho hb hg hat; obtain ⟨B', b', rfl, -⟩ := ho.reads; have HS4 := Lib.hid (HS3.out.push hg ho hat (HO3.out.mono (by have := HGE.out; have := HB.out.size; omega)) (fun a e e2 => by have h1 := HLT.out a.block e2.symm; have h2 := (HO3.out.lt a.block (by rw [own_block_of]; show A2.map _ = _; rw [show A2 = some a from e]; rfl)).1; have := HGE.out; omega) (fun y hy a b e1 e2 e3 => by have h1 := HLX.out y hy a e1; have h2 := (HO3.out.lt b.block (by rw [own_block_of]; show A2.map _ = _; rw [show A2 = some b from e2]; rfl)).1; have := HGE.out; omega)); have HB4 := Lib.hid hb; clear ho hb hg hat)
      have HD4 : Hid ((l' ++ [(⟨x.d, A2, c2⟩ : HM)]).map (·.d) = (l.take (k + 1)).map (·.d)) := by
        unfold Hid
        obtain ⟨h1, h2⟩ := List.getElem?_eq_some_iff.1 HX.out
        rw [List.map_append, HDD.out, List.take_succ_eq_append_getElem hlt, List.map_append, h2]; rfl
      clear c'
      go_roundw
      case rel => exact ⟨k + 1, _, B', b', by omega, by go_num, by rw [List.length_append]; rfl, HD4.out, HS4.out, HB4.out⟩
      case measure => simp only [intOf]; omega
    · have HE : Hid (l'.map (·.d) = l.map (·.d)) := by unfold Hid; rw [HDD.out, List.take_of_length_le (by omega)]
      go_wp2
      go_ret
      exact ⟨HB.out, _, _, _, rfl, HE.out, HS.out.reads⟩
end
end Go.Proofs.Ytjoplgdcpihmaaa
