/- The law ChunkAll: its walk. -/
import Derived.Test.YtjoplgdcpihmaaaChkC0
import Derived.Test.YtjoplgdcpihmaaaChkG
import Derived.Test.YtjoplgdcpihmaaaChkH
import Derived.Test.YtjoplgdcpihmaaaOpen
import Derived.Test.YtjoplgdcpihmaaaHeadO
namespace Go.Proofs.Ytjoplgdcpihmaaa
open Go.RowKit
/-- A copy by append to nothing, as one step. -/
theorem El.step_copy {α : Type} (E : El α) {W : World} {ops : Array Oper} {o : Oper} {a : Act} {Q : Exit → Act → World → Prop} {K : Act → World → Prop} {E' : Prop} {A : Option Addr} {c : Nat} {B : List α}
    (hr : E.Reads W (.slice A B.length c) B) (h0 : 0 < B.length) (hl : B.length * E.bytes ≤ 140737488355328 ∧ B.length ≤ 9223372036854775807) (hgd : o.guard = none) (s x : Operand) (ho : o.op = .call { callee := .builtin .append, args := #[s, x], argTypes := #[E.t, E.t] }) (hs : a.eval s = .slice none 0 0) (hx : a.eval x = .slice A B.length c)
    (k : ∀ A' c' w', E.Own w' W.heap.size (.slice A' B.length c') B → W.grownBy w' none → K (a.put o.dst (.slice A' B.length c')) w') :
    if Region.wanted o (yielded ops a.tmps) = true then Oper.wp Try.prog o a W K Q else E' := by
  obtain ⟨A1, c1, hv, -, hcell⟩ := hr
  simp only [Value.slice.injEq] at hv
  obtain ⟨rfl, -, rfl⟩ := hv
  obtain ⟨b, o1, rfl, hb, hc⟩ := hcell h0
  obtain ⟨i0, hi, hzz⟩ := Option.map_eq_some_iff.1 E.hinfo
  simp only [Prod.mk.injEq] at hzz
  obtain ⟨hz0, hz1, hz2⟩ := hzz
  refine step_append_lies W hgd s x E.t ho W.heap.size E.e i0 E.z E.size E.bytes E.ht hi hz0 hz1 hz2 E.hz E.pos (.slice none 0 0) 0 [] hs (World.ownsRow_nil W _ _ _) ⟨b, o1, none⟩ B.length c (E.cells B) hx
    (E.cells_length B) (fun j u hj => by
      have := hc j u hj
      unfold Addr.add
      split
      · rename_i hj0; subst hj0; exact this
      · exact this) (fun u hu => E.cells_one B u hu) h0 (by simp only [maxLen]; omega) (by rw [Nat.zero_add]; exact hl.1) (Nat.le_refl _) W.heap.size rfl ?_
  intro g cap w1 hown hg _ _
  rw [Nat.zero_add] at hown ⊢
  exact k _ _ w1 hown hg
theorem run_copy0 (W : World) (A : Option Addr) (c : Nat) (ty : TypeId) : (Builtin.append_ #[67, 67] ty #[.slice none 0 0, .slice A 0 c]).run Try.prog W = .ok (.slice none 0 0) W := by
  obtain ⟨i, hi, hzz⟩ := Option.map_eq_some_iff.1 info9
  cases A with
  | none => simp [Builtin.append_, run_underlying Try.underlying67, sizeOf, typeInfo, hi, Builtin.lenOf, Builtin.firstCells]
  | some a =>
    have hfc := run_firstCells_some (P := Try.prog) W i.size 0 a 0 c [] (by simp) (fun j u h => by simp at h)
    simp [Builtin.append_, run_underlying Try.underlying67, sizeOf, typeInfo, hi, Builtin.lenOf, hfc]
theorem step_copy0 {W : World} {ops : Array Oper} {o : Oper} {a : Act} {Q : Exit → Act → World → Prop} {K : Act → World → Prop} {E' : Prop} {A : Option Addr} {c : Nat}
    (hgd : o.guard = none) (s x : Operand) (ho : o.op = .call { callee := .builtin .append, args := #[s, x], argTypes := #[67, 67] }) (hs : a.eval s = .slice none 0 0) (hx : a.eval x = .slice A 0 c)
    (k : K (a.put o.dst (.slice none 0 0)) W) :
    if Region.wanted o (yielded ops a.tmps) = true then Oper.wp Try.prog o a W K Q else E' := by
  have hw : Region.wanted o (yielded ops a.tmps) = true := by simp [Region.wanted, hgd]
  rw [if_pos hw]
  have hrun := run_copy0 W A c o.type
  unfold Oper.wp
  simp [execOp, ho, resolve, invoke, builtin, hs, hx, hrun, Result.andThen]
  exact k
theorem refparse_some (s : List UInt8) (h : Hd) (l : List Ent) (B : List (List UInt8)) (w : World) (hs : s.length ≤ 100000000) (hg : chunkGet s = some (h, l, B)) :
    Calls Try.prog 58 #[.string (bs s)] w fun e w' => Below w.heap.size w w' ∧ ∃ A2 c2 A c, e = .returned (.tuple #[.agg #[.int .i64 h.house, .int .i64 h.gen, .int .i64 h.life, .int .i64 h.seq, .int .i64 h.next, .int .i64 h.clock, .int .i64 h.sb, .int .i64 h.sn, .slice A2 l.length c2], .slice A B.length c, .bool true]) ∧ EE.Own w' w.heap.size (.slice A2 l.length c2) l ∧ ES.Own w' w.heap.size (.slice A B.length c) B := by
  refine (refparse_any s w hs).mono ?_
  rintro e w' ⟨hb, ⟨h1, -⟩ | ⟨h', l', B', vE, A, c, h1, h2, h3, h4, h5⟩⟩
  · rw [hg] at h1; cases h1
  · rw [hg] at h1
    simp only [Option.some.injEq, Prod.mk.injEq] at h1
    obtain ⟨rfl, rfl, rfl⟩ := h1
    obtain ⟨A2, c2, rfl, -⟩ := h2.reads
    exact ⟨hb, A2, c2, A, c, h5, h2, h3⟩
theorem refparse_none (s : List UInt8) (w : World) (hs : s.length ≤ 100000000) (hg : chunkGet s = none) :
    Calls Try.prog 58 #[.string (bs s)] w fun e w' => e = .returned (.tuple #[.agg #[.int .i64 0, .int .i64 0, .int .i64 0, .int .i64 0, .int .i64 0, .int .i64 0, .int .i64 0, .int .i64 0, .slice none 0 0], .slice none 0 0, .bool false]) ∧ Below w.heap.size w w' := by
  refine (refparse_any s w hs).mono ?_
  rintro e w' ⟨hb, ⟨-, h1⟩ | ⟨h', l', B', vE, A, c, h1, -⟩⟩
  · exact ⟨h1, hb⟩
  · rw [hg] at h1; cases h1
theorem refmake_val (h : Hd) (vE : Value) (l : List Ent) (v : Value) (B : List (List UInt8)) (r : Option (List UInt8)) (w : World) (hE : EE.Reads w vE l) (hr : ES.Reads w v B) (hl : l.length * 24 ≤ 140737488351232) (hB : B.length ≤ 100000) (hp : chunkPut h l B = r) :
    Calls Try.prog 56 #[.agg #[.int .i64 h.house, .int .i64 h.gen, .int .i64 h.life, .int .i64 h.seq, .int .i64 h.next, .int .i64 h.clock, .int .i64 h.sb, .int .i64 h.sn, vE], v] w fun e w' => e = .returned (.tuple #[.string (bs (r.getD [])), .bool r.isSome]) ∧ Below w.heap.size w w' := hp ▸ refmake_any h vE l v B w hE hr hl hB
section
attribute [local go_sem] bs_size
attribute [local go_sem ↓] Go.wp_at_zero Go.wp_at_succ
set_option maxRecDepth 100000 in
set_option maxHeartbeats 8000000 in
theorem chunkAll_walk (h : Hd) (vE : Value) (l : List Ent) (v : Value) (B : List (List UInt8)) (s : List UInt8) (w : World) (hE : EE.Reads w vE l) (_n : NilOk vE) (hr : ES.Reads w v B) (hn : NilOk v) (_x : True) :
    Calls Try.prog 12 #[.agg #[.int .i64 h.house, .int .i64 h.gen, .int .i64 h.life, .int .i64 h.seq, .int .i64 h.next, .int .i64 h.clock, .int .i64 h.sb, .int .i64 h.sn, vE], v, .string (bs s)] w fun e w' => e = .returned (.bool true) ∧ Below w.heap.size w w' := by
  have hr' := hr
  obtain ⟨A, c, rfl, hc, -⟩ := hr'
  have HF1 := Lib.hid (Fr.one w #[.int .i64 h.house, .int .i64 h.gen, .int .i64 h.life, .int .i64 h.seq, .int .i64 h.next, .int .i64 h.clock, .int .i64 h.sb, .int .i64 h.sn, vE] 24)
  have HR := Lib.hid (hr.below HF1.out.bel)
  have HE := Lib.hid (hE.below HF1.out.bel)
  have HN := Lib.hid hn
  clear hr hE hn _n _x hc
  go_enter Try.func12, Try.ntmps12
  go_upto_region 1 with fail
  generalize w.alloc (.cells #[.int .i64 h.house, .int .i64 h.gen, .int .i64 h.life, .int .i64 h.seq, .int .i64 h.next, .int .i64 h.clock, .int .i64 h.sb, .int .i64 h.sn, vE] 24) = W1 at *
  have cc : ∀ j : Nat, W1.cell? ⟨w.heap.size, j, none⟩ = (#[.int .i64 h.house, .int .i64 h.gen, .int .i64 h.life, .int .i64 h.seq, .int .i64 h.next, .int .i64 h.clock, .int .i64 h.sb, .int .i64 h.sn, vE] : Array Value)[j]? := HF1.out.cells (i := 0) rfl rfl
  go_wp2_with fail
  refine (few13_any h vE l _ B _ HE.out HR.out).mono ?_
  rintro e w2 ⟨rfl, hb⟩
  have HF2 := Lib.hid (HF1.out.below hb)
  have HR2 := Lib.hid (HR.out.below hb)
  have HE2 := Lib.hid (HE.out.below hb)
  have HBB := Lib.hid HF2.out.bel
  clear hb cc HF1 HR HE
  cases hfb : few13B l B with
  | false =>
    go_wp2_with fail
    refine (awake13_any _).mono ?_
    rintro e w9 ⟨rfl, hb⟩
    have HB9 := Lib.hid (HBB.out.trans (hb.mono HBB.out.size))
    clear hb
    go_wp2_with fail
    go_ret
    exact ⟨rfl, HB9.out⟩
  | true =>
    obtain ⟨hl30, hb30, hb300⟩ := few13_iff.1 hfb
    by_cases hsl : s.length ≤ 10000
    · have hsi : (s.length : Int) ≤ 10000 := by omega
      have HSL := Lib.hid hsl
      obtain ⟨r, hrp⟩ : ∃ r, chunkPut h l B = r := ⟨_, rfl⟩
      have HCP := Lib.hid hrp
      have HLL : Hid (l.length * 24 ≤ 140737488351232) := by unfold Hid; omega
      have HL1 : Hid (l.length ≤ 100000) := by unfold Hid; omega
      have HBL : Hid (B.length ≤ 100000) := by unfold Hid; omega
      have HBX : Hid (B.length * ES.bytes ≤ 140737488355328 ∧ B.length ≤ 9223372036854775807) := by unfold Hid; simp only [ES]; omega
      clear hrp hfb hb300
      go_upto_region 3 with fail
      clear hsi hsl hl30
      go_cut [7, 8] (fun p q wc => p = .string (bs (r.getD [])) ∧ q = .bool r.isSome ∧ Fr w wc [(#[.int .i64 h.house, .int .i64 h.gen, .int .i64 h.life, .int .i64 h.seq, .int .i64 h.next, .int .i64 h.clock, .int .i64 h.sb, .int .i64 h.sn, vE], 24)] ∧ EE.Reads wc vE l ∧ ES.Reads wc (.slice A B.length c) B)
      case first =>
        by_cases h0 : 0 < B.length
        · have H0 := Lib.hid h0
          have HFD := Lib.hid HF2.out.drew
          have HRD : Hid (ES.Reads w2.drew (.slice A B.length c) B) := HR2.out
          have HED : Hid (EE.Reads w2.drew vE l) := HE2.out
          have c2 : ∀ j : Nat, w2.cell? ⟨w.heap.size, j, none⟩ = (#[.int .i64 h.house, .int .i64 h.gen, .int .i64 h.life, .int .i64 h.seq, .int .i64 h.next, .int .i64 h.clock, .int .i64 h.sb, .int .i64 h.sn, vE] : Array Value)[j]? := HF2.out.cells (i := 0) rfl rfl
          clear h0
          go_region_law
            ((first | (refine El.step_copy ES HRD.out H0.out HBX.out rfl _ _ (by rfl) (by rfl) (by rfl) ?_; intro A9 c9 w3 ho hg; have HO3 := Lib.hid ho.reads; have HD := Lib.hid (Below.grown (Below.refl _ _) hg (Nat.le_refl _) (fun _ e => by cases e)); have HF3 := Lib.hid (HFD.out.below HD.out); have HE3 := Lib.hid (HED.out.below HD.out); have HR3 := Lib.hid (HRD.out.below HD.out); have c3 : ∀ j : Nat, w3.cell? ⟨w.heap.size, j, none⟩ = (#[.int .i64 h.house, .int .i64 h.gen, .int .i64 h.life, .int .i64 h.seq, .int .i64 h.next, .int .i64 h.clock, .int .i64 h.sb, .int .i64 h.sn, vE] : Array Value)[j]? := HF3.out.cells (i := 0) rfl rfl; clear ho hg HD) | (go_simp; go_at_call 55; refine (make_val h vE l _ B r _ HE3.out HO3.out HLL.out HBL.out HCP.out).mono ?_; rintro e w4 ⟨rfl, hb⟩; have HF4 := Lib.hid (HF3.out.below hb); have HE4 := Lib.hid (HE3.out.below hb); have HR4 := Lib.hid (HR3.out.below hb); clear hb c3 HF3 HE3 HR3 HO3) | fail))
          all_goals
            go_wp2_with fail
            go_meet
            case rel => exact ⟨rfl, rfl, HF4.out, HE4.out, HR4.out⟩
        · obtain rfl : B = [] := List.eq_nil_of_length_eq_zero (by omega)
          have HFD := Lib.hid HF2.out.drew
          have c2 : ∀ j : Nat, w2.cell? ⟨w.heap.size, j, none⟩ = (#[.int .i64 h.house, .int .i64 h.gen, .int .i64 h.life, .int .i64 h.seq, .int .i64 h.next, .int .i64 h.clock, .int .i64 h.sb, .int .i64 h.sn, vE] : Array Value)[j]? := HF2.out.cells (i := 0) rfl rfl
          have HRD : Hid (ES.Reads w2.drew (.slice A 0 c) []) := HR2.out
          have HED : Hid (EE.Reads w2.drew vE l) := HE2.out
          go_region_law
            ((first | (refine step_copy0 rfl _ _ (by rfl) (by rfl) (by rfl) ?_) | (go_simp; go_at_call 55; refine (make_val h vE l _ [] r _ HED.out (El.Reads.nil _) HLL.out HBL.out HCP.out).mono ?_; rintro e w4 ⟨rfl, hb⟩; have HF4 := Lib.hid (HFD.out.below hb); have HE4 := Lib.hid (HED.out.below hb); have HR4 := Lib.hid (HRD.out.below hb); clear hb) | fail))
          all_goals
            go_wp2_with fail
            go_meet
            case rel => exact ⟨rfl, rfl, HF4.out, HE4.out, HR4.out⟩
      case rest =>
        obtain ⟨rfl, rfl, hF, hE, hR⟩ := hcut
        have HF3 := Lib.hid hF
        have HE3 := Lib.hid hE
        have HR3 := Lib.hid hR
        clear hF hE hR HF2 HE2 HR2 HBB HN
        have cc : ∀ j : Nat, wc.cell? ⟨w.heap.size, j, none⟩ = (#[.int .i64 h.house, .int .i64 h.gen, .int .i64 h.life, .int .i64 h.seq, .int .i64 h.next, .int .i64 h.clock, .int .i64 h.sb, .int .i64 h.sn, vE] : Array Value)[j]? := HF3.out.cells (i := 0) rfl rfl
        go_wp2_with fail
        refine (refmake_val h vE l _ B r _ HE3.out HR3.out HLL.out HBL.out HCP.out).mono ?_
        rintro e w4 ⟨rfl, hb⟩
        have HB4 := Lib.hid (HF3.out.bel.trans (hb.mono HF3.out.bel.size))
        clear hb cc HF3 HE3 HR3 HBX HCP HLL HL1 HBL
        generalize bs (r.getD []) = x at *
        generalize r.isSome = y at *
        have hyy : (y == y) = true := by cases y <;> rfl
        go_wp2_with fail
        have HS1 : Hid (s.length ≤ 100000000) := by unfold Hid; have := HSL.out; omega
        cases hg : chunkGet s with
        | none =>
          have HG := Lib.hid hg
          clear hg
          refine (parse_none s _ HS1.out HG.out).mono ?_
          rintro e w5 ⟨rfl, hb⟩
          have HF5 := Lib.hid (Fr.one w5 #[.int .i64 0, .int .i64 0, .int .i64 0, .int .i64 0, .int .i64 0, .int .i64 0, .int .i64 0, .int .i64 0, .slice none 0 0] 24)
          have HB5 := Lib.hid ((HB4.out.trans (hb.mono HB4.out.size)).trans (HF5.out.bel.mono (HB4.out.trans (hb.mono HB4.out.size)).size))
          clear hb HB4
          go_upto_region 6 with fail
          generalize w5.alloc (.cells #[.int .i64 0, .int .i64 0, .int .i64 0, .int .i64 0, .int .i64 0, .int .i64 0, .int .i64 0, .int .i64 0, .slice none 0 0] 24) = W5 at *
          go_wp2_with fail
          refine (refparse_none s _ HS1.out HG.out).mono ?_
          rintro e w6 ⟨rfl, hb⟩
          have HF6 := Lib.hid (Fr.one w6 #[.int .i64 0, .int .i64 0, .int .i64 0, .int .i64 0, .int .i64 0, .int .i64 0, .int .i64 0, .int .i64 0, .slice none 0 0] 24)
          have HF5b := Lib.hid ((HF5.out.below hb).below (HF6.out.bel))
          have HB6 := Lib.hid ((HB5.out.trans (hb.mono HB5.out.size)).trans (HF6.out.bel.mono (HB5.out.trans (hb.mono HB5.out.size)).size))
          clear hb HB5 HF5
          go_upto_region 7 with fail
          generalize w6.alloc (.cells #[.int .i64 0, .int .i64 0, .int .i64 0, .int .i64 0, .int .i64 0, .int .i64 0, .int .i64 0, .int .i64 0, .slice none 0 0] 24) = W6 at *
          have e5 : ∀ j : Nat, W6.cell? ⟨w5.heap.size, j, none⟩ = (#[.int .i64 0, .int .i64 0, .int .i64 0, .int .i64 0, .int .i64 0, .int .i64 0, .int .i64 0, .int .i64 0, .slice none 0 0] : Array Value)[j]? := HF5b.out.cells (i := 0) rfl rfl
          have e6 : ∀ j : Nat, W6.cell? ⟨w6.heap.size, j, none⟩ = (#[.int .i64 0, .int .i64 0, .int .i64 0, .int .i64 0, .int .i64 0, .int .i64 0, .int .i64 0, .int .i64 0, .slice none 0 0] : Array Value)[j]? := HF6.out.cells (i := 0) rfl rfl
          go_wp2_with fail
          refine (same_any hdZ8 _ _ [] _ (El.Reads.nil _) (El.Reads.nil _) (Nat.zero_le _)).mono ?_
          rintro e w7 ⟨rfl, hb⟩
          have HB7 := Lib.hid (HB6.out.trans (hb.mono HB6.out.size))
          skip
          clear hb e5 e6
          go_wp2_with fail
          refine (samestr_any _ _ [] _ (El.Reads.nil _) (El.Reads.nil _) (Nat.zero_le _)).mono ?_
          rintro e w8 ⟨rfl, hb⟩
          have HBB := Lib.hid (HB7.out.trans (hb.mono HB7.out.size))
          clear hb
          go_wp2_with fail
          refine (awake13_any _).mono ?_
          rintro e w9 ⟨rfl, hb⟩
          have HB9 := Lib.hid (HBB.out.trans (hb.mono HBB.out.size))
          clear hb
          go_wp2_with fail
          go_ret
          exact ⟨rfl, HB9.out⟩
        | some t =>
          obtain ⟨h3, l3, B3⟩ := t
          have HG := Lib.hid hg
          have HL3 : Hid (l3.length ≤ 100000 ∧ B3.length ≤ 100000) := by
            unfold Hid
            unfold chunkGet at hg
            cases hh : getHead s with
            | none => rw [hh] at hg; cases hg
            | some q =>
              obtain ⟨h4, l4, n4⟩ := q
              rw [hh] at hg
              simp only at hg
              split at hg
              · simp only [Option.some.injEq, Prod.mk.injEq] at hg
                obtain ⟨-, rfl, rfl⟩ := hg
                have := checkB_len (getHead_parts hh).2.1
                rw [cutB_len]
                omega
              · cases hg
          clear hg
          refine (parse_some s h3 l3 B3 _ HS1.out HG.out).mono ?_
          rintro e w5 ⟨hb, A3, c3, A4, c4, rfl, ho, hobs⟩
          have HF5 := Lib.hid (Fr.one w5 #[.int .i64 h3.house, .int .i64 h3.gen, .int .i64 h3.life, .int .i64 h3.seq, .int .i64 h3.next, .int .i64 h3.clock, .int .i64 h3.sb, .int .i64 h3.sn, .slice A3 l3.length c3] 24)
          have HE5 := Lib.hid (ho.reads.below HF5.out.bel)
          have HS5 := Lib.hid (hobs.reads.below HF5.out.bel)
          have HB5 := Lib.hid ((HB4.out.trans (hb.mono HB4.out.size)).trans (HF5.out.bel.mono (HB4.out.trans (hb.mono HB4.out.size)).size))
          clear hb HB4 ho hobs
          go_upto_region 6 with fail
          generalize w5.alloc (.cells #[.int .i64 h3.house, .int .i64 h3.gen, .int .i64 h3.life, .int .i64 h3.seq, .int .i64 h3.next, .int .i64 h3.clock, .int .i64 h3.sb, .int .i64 h3.sn, .slice A3 l3.length c3] 24) = W5 at *
          go_wp2_with fail
          refine (refparse_some s h3 l3 B3 _ HS1.out HG.out).mono ?_
          rintro e w6 ⟨hb, A5, c5, A6, c6, rfl, ho, hobs⟩
          have HF6 := Lib.hid (Fr.one w6 #[.int .i64 h3.house, .int .i64 h3.gen, .int .i64 h3.life, .int .i64 h3.seq, .int .i64 h3.next, .int .i64 h3.clock, .int .i64 h3.sb, .int .i64 h3.sn, .slice A5 l3.length c5] 24)
          have HF5b := Lib.hid ((HF5.out.below hb).below (HF6.out.bel))
          have HE5b := Lib.hid ((HE5.out.below hb).below (HF6.out.bel))
          have HS5b := Lib.hid ((HS5.out.below hb).below (HF6.out.bel))
          have HE6 := Lib.hid (ho.reads.below HF6.out.bel)
          have HS6 := Lib.hid (hobs.reads.below HF6.out.bel)
          have HB6 := Lib.hid ((HB5.out.trans (hb.mono HB5.out.size)).trans (HF6.out.bel.mono (HB5.out.trans (hb.mono HB5.out.size)).size))
          clear hb HB5 HF5 HE5 HS5 ho hobs
          go_upto_region 7 with fail
          generalize w6.alloc (.cells #[.int .i64 h3.house, .int .i64 h3.gen, .int .i64 h3.life, .int .i64 h3.seq, .int .i64 h3.next, .int .i64 h3.clock, .int .i64 h3.sb, .int .i64 h3.sn, .slice A5 l3.length c5] 24) = W6 at *
          have e5 : ∀ j : Nat, W6.cell? ⟨w5.heap.size, j, none⟩ = (#[.int .i64 h3.house, .int .i64 h3.gen, .int .i64 h3.life, .int .i64 h3.seq, .int .i64 h3.next, .int .i64 h3.clock, .int .i64 h3.sb, .int .i64 h3.sn, .slice A3 l3.length c3] : Array Value)[j]? := HF5b.out.cells (i := 0) rfl rfl
          have e6 : ∀ j : Nat, W6.cell? ⟨w6.heap.size, j, none⟩ = (#[.int .i64 h3.house, .int .i64 h3.gen, .int .i64 h3.life, .int .i64 h3.seq, .int .i64 h3.next, .int .i64 h3.clock, .int .i64 h3.sb, .int .i64 h3.sn, .slice A5 l3.length c5] : Array Value)[j]? := HF6.out.cells (i := 0) rfl rfl
          go_wp2_with fail
          refine (same_any h3 _ _ l3 _ HE5b.out HE6.out HL3.out.1).mono ?_
          rintro e w7 ⟨rfl, hb⟩
          have HB7 := Lib.hid (HB6.out.trans (hb.mono HB6.out.size))
          have HS7 := Lib.hid (HS5b.out.below hb)
          have HS8 := Lib.hid (HS6.out.below hb)
          clear hb e5 e6
          go_wp2_with fail
          refine (samestr_any _ _ B3 _ HS7.out HS8.out HL3.out.2).mono ?_
          rintro e w8 ⟨rfl, hb⟩
          have HBB := Lib.hid (HB7.out.trans (hb.mono HB7.out.size))
          clear hb
          go_wp2_with fail
          refine (awake13_any _).mono ?_
          rintro e w9 ⟨rfl, hb⟩
          have HB9 := Lib.hid (HBB.out.trans (hb.mono HBB.out.size))
          clear hb
          go_wp2_with fail
          go_ret
          exact ⟨rfl, HB9.out⟩
    · have hsi : ¬ (s.length : Int) ≤ 10000 := by omega
      go_wp2_with fail
      refine (awake13_any _).mono ?_
      rintro e w9 ⟨rfl, hb⟩
      have HB9 := Lib.hid (HBB.out.trans (hb.mono HBB.out.size))
      clear hb
      go_wp2_with fail
      go_ret
      exact ⟨rfl, HB9.out⟩
end
section
open Go.ChangeShapes Go.WideShapes Go.Deep Go.Joins
variable {H : Type} {enc : TypeId × Value → H} {w : World}
set_option maxRecDepth 100000 in
theorem open_strs {r : Reach} {b0 : Nat} {v : Value} {d : DataW H} {p : List MemPlace} (hv : Value.okWide Try.prog w r b0 67 v) (h : DataW.Trod enc Try.prog w 0 (fun _ => true) true 67 v d p) :
    ∃ l : List (List UInt8), ES.Reads w v l ∧ NilOk v ∧ True := by
  obtain ⟨a, len, cap, rfl⟩ := okWide_slice Try.underlying67 hv
  obtain ⟨fuel, hf⟩ := h
  obtain ⟨l, h1, h2⟩ := El.open_of ES [] (by kernel_rfl) (fun n cs y h => by
    obtain ⟨s, rfl, -, -⟩ := DataW.trod_string Try.underlying9 h
    exact ⟨s.data.toList, by simp [ES, bs]⟩) hf
  exact ⟨l, h1, h2, trivial⟩
end
end Go.Proofs.Ytjoplgdcpihmaaa
