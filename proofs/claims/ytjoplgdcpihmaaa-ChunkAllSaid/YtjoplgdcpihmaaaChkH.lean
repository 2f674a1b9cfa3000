/- Chunks: the chapter's own Parse (func 58). -/
import Derived.Test.YtjoplgdcpihmaaaChkB
import Derived.Test.YtjoplgdcpihmaaaHeadS
namespace Go.Proofs.Ytjoplgdcpihmaaa
open Go.RowKit
section
attribute [local go_sem] bs_size bs_extract
attribute [local go_sem ↓] Go.wp_at_zero Go.wp_at_succ
set_option maxRecDepth 100000 in
set_option maxHeartbeats 8000000 in
theorem refparse_any (s : List UInt8) (w : World) (hs : s.length ≤ 100000000) :
    Calls Try.prog 58 #[.string (bs s)] w fun e w' => Below w.heap.size w w' ∧
      ((chunkGet s = none ∧ e = .returned (.tuple #[.agg #[.int .i64 0, .int .i64 0, .int .i64 0, .int .i64 0, .int .i64 0, .int .i64 0, .int .i64 0, .int .i64 0, .slice none 0 0], .slice none 0 0, .bool false])) ∨
       ∃ h l B vE A c, chunkGet s = some (h, l, B) ∧ EE.Own w' w.heap.size vE l ∧ ES.Own w' w.heap.size (.slice A B.length c) B ∧ B.length = l.length ∧ e = .returned (.tuple #[.agg #[.int .i64 h.house, .int .i64 h.gen, .int .i64 h.life, .int .i64 h.seq, .int .i64 h.next, .int .i64 h.clock, .int .i64 h.sb, .int .i64 h.sn, vE], .slice A B.length c, .bool true])) := by
  have HS : Hid (s.length ≤ 140737488000000) := by unfold Hid; omega
  have HF1 := Lib.hid (Fr.one w #[.int .i64 0, .int .i64 0, .int .i64 0, .int .i64 0, .int .i64 0, .int .i64 0, .int .i64 0, .int .i64 0, .slice none 0 0] 24)
  go_enter Try.func58, Try.ntmps58
  go_wp2_with fail
  generalize w.alloc (.cells #[.int .i64 0, .int .i64 0, .int .i64 0, .int .i64 0, .int .i64 0, .int .i64 0, .int .i64 0, .int .i64 0, .slice none 0 0] 24) = W1 at *
  cases hg : getHead s with
  | none =>
    refine (ref8Get_none s _ (by have := HS.out; omega) hg).mono ?_
    rintro e w2 ⟨rfl, hb⟩
    have HF2 := Lib.hid (HF1.out.below hb)
    have HG := Lib.hid hg
    have HN := Lib.hid (chunkGet_head hg)
    clear hb hg HF1
    go_upto_region 2 with fail
    have HF3 := Lib.hid (HF2.out.below ((Below.refl _ _).alloc (Nat.le_refl _) (.cells #[.int .i64 0, .int .i64 0, .int .i64 0, .int .i64 0, .int .i64 0, .int .i64 0, .int .i64 0, .int .i64 0, .slice none 0 0] 24)))
    have HX3 := Lib.hid (Fr.one w2 #[.int .i64 0, .int .i64 0, .int .i64 0, .int .i64 0, .int .i64 0, .int .i64 0, .int .i64 0, .int .i64 0, .slice none 0 0] 24)
    clear HF2
    generalize w2.alloc (.cells #[.int .i64 0, .int .i64 0, .int .i64 0, .int .i64 0, .int .i64 0, .int .i64 0, .int .i64 0, .int .i64 0, .slice none 0 0] 24) = W3 at *
    have e5 : ∀ j : Nat, W3.cell? ⟨w2.heap.size, j, none⟩ = (#[.int .i64 0, .int .i64 0, .int .i64 0, .int .i64 0, .int .i64 0, .int .i64 0, .int .i64 0, .int .i64 0, .slice none 0 0] : Array Value)[j]? := HX3.out.cells (i := 0) rfl rfl
    have f0 := HF3.out.frees (i := 0) (b := w.heap.size) rfl rfl
    have z0 : ∀ j : Nat, W3.cell? ⟨w.heap.size, j, none⟩ = (#[.int .i64 0, .int .i64 0, .int .i64 0, .int .i64 0, .int .i64 0, .int .i64 0, .int .i64 0, .int .i64 0, .slice none 0 0] : Array Value)[j]? := HF3.out.cells (i := 0) rfl rfl
    go_upto_region 3 with fail
    go_quiet (fail)
    go_wp2_with fail
    have HZ : Hid (∀ n, Fr w ((((((((((W3.drewN n).setCell ⟨w.heap.size, 0, none⟩ (.int .i64 0)).setCell ⟨w.heap.size, 1, none⟩ (.int .i64 0)).setCell ⟨w.heap.size, 2, none⟩ (.int .i64 0)).setCell ⟨w.heap.size, 3, none⟩ (.int .i64 0)).setCell ⟨w.heap.size, 4, none⟩ (.int .i64 0)).setCell ⟨w.heap.size, 5, none⟩ (.int .i64 0)).setCell ⟨w.heap.size, 6, none⟩ (.int .i64 0)).setCell ⟨w.heap.size, 7, none⟩ (.int .i64 0)).setCell ⟨w.heap.size, 8, none⟩ (.slice none 0 0)) [(#[.int .i64 0, .int .i64 0, .int .i64 0, .int .i64 0, .int .i64 0, .int .i64 0, .int .i64 0, .int .i64 0, .slice none 0 0], 24)]) := fun n => (((((((((((fr_drewN HF3.out n).set (i := 0) (b := w.heap.size) rfl rfl 0 (.int .i64 0)).set (i := 0) (b := w.heap.size) rfl rfl 1 (.int .i64 0)).set (i := 0) (b := w.heap.size) rfl rfl 2 (.int .i64 0)).set (i := 0) (b := w.heap.size) rfl rfl 3 (.int .i64 0)).set (i := 0) (b := w.heap.size) rfl rfl 4 (.int .i64 0)).set (i := 0) (b := w.heap.size) rfl rfl 5 (.int .i64 0)).set (i := 0) (b := w.heap.size) rfl rfl 6 (.int .i64 0)).set (i := 0) (b := w.heap.size) rfl rfl 7 (.int .i64 0)).set (i := 0) (b := w.heap.size) rfl rfl 8 (.slice none 0 0)).at' (bl' := [(#[.int .i64 0, .int .i64 0, .int .i64 0, .int .i64 0, .int .i64 0, .int .i64 0, .int .i64 0, .int .i64 0, .slice none 0 0], 24)]) (by simp only [List.setIfInBounds_toArray, List.set_cons_zero, List.set_cons_succ]))
    clear e5 f0 z0
    refine (fun (hk : ∀ W, Fr w W [(#[.int .i64 0, .int .i64 0, .int .i64 0, .int .i64 0, .int .i64 0, .int .i64 0, .int .i64 0, .int .i64 0, .slice none 0 0], 24)] → bodyPost Try.prog Try.f58 _ Exit.ret _ W) => hk _ (HZ.out _)) ?_
    intro W hst
    have HW := Lib.hid hst
    have dd : ∀ j : Nat, W.cell? ⟨w.heap.size, j, none⟩ = (#[.int .i64 0, .int .i64 0, .int .i64 0, .int .i64 0, .int .i64 0, .int .i64 0, .int .i64 0, .int .i64 0, .slice none 0 0] : Array Value)[j]? := hst.cells (i := 0) rfl rfl
    clear hst
    refine bodyPost_ret (v := .tuple #[.agg #[.int .i64 0, .int .i64 0, .int .i64 0, .int .i64 0, .int .i64 0, .int .i64 0, .int .i64 0, .int .i64 0, .slice none 0 0], .slice none 0 0, .bool false]) (by simp [results, Try.results58, go_sem, dd]) rfl ⟨HW.out.bel, .inl ⟨HN.out, rfl⟩⟩
  | some t =>
    obtain ⟨h, l, n⟩ := t
    refine (ref8Get_some s h l n _ (by have := HS.out; omega) hg).mono ?_
    rintro e w2 ⟨hb, A, c, ho, rfl⟩
    have HF2 := Lib.hid (HF1.out.below hb)
    have HG := Lib.hid hg
    have hsz : w.heap.size + 1 ≤ W1.heap.size := HF1.out.2.1
    have HO2 : Hid (EE.Own w2 (w.heap.size + 1) (.slice A l.length c) l) := ho.mono hsz
    clear hb hg HF1 ho hsz
    go_upto_region 2 with fail
    have HO3 : Hid (EE.Own (w2.alloc (.cells #[.int .i64 h.house, .int .i64 h.gen, .int .i64 h.life, .int .i64 h.seq, .int .i64 h.next, .int .i64 h.clock, .int .i64 h.sb, .int .i64 h.sn, .slice A l.length c] 24)) (w.heap.size + 1) (.slice A l.length c) l) := HO2.out.alloc _
    have HF3 := Lib.hid (HF2.out.below ((Below.refl _ _).alloc (Nat.le_refl _) (.cells #[.int .i64 h.house, .int .i64 h.gen, .int .i64 h.life, .int .i64 h.seq, .int .i64 h.next, .int .i64 h.clock, .int .i64 h.sb, .int .i64 h.sn, .slice A l.length c] 24)))
    have HX3 := Lib.hid (Fr.one w2 #[.int .i64 h.house, .int .i64 h.gen, .int .i64 h.life, .int .i64 h.seq, .int .i64 h.next, .int .i64 h.clock, .int .i64 h.sb, .int .i64 h.sn, .slice A l.length c] 24)
    clear HF2
    generalize w2.alloc (.cells #[.int .i64 h.house, .int .i64 h.gen, .int .i64 h.life, .int .i64 h.seq, .int .i64 h.next, .int .i64 h.clock, .int .i64 h.sb, .int .i64 h.sn, .slice A l.length c] 24) = W3 at *
    have e0 : ∀ j : Nat, W3.cell? ⟨w2.heap.size, j, none⟩ = (#[.int .i64 h.house, .int .i64 h.gen, .int .i64 h.life, .int .i64 h.seq, .int .i64 h.next, .int .i64 h.clock, .int .i64 h.sb, .int .i64 h.sn, .slice A l.length c] : Array Value)[j]? := HX3.out.cells (i := 0) rfl rfl
    have f0 := HF3.out.frees (i := 0) (b := w.heap.size) rfl rfl
    have z0 : ∀ j : Nat, W3.cell? ⟨w.heap.size, j, none⟩ = (#[.int .i64 0, .int .i64 0, .int .i64 0, .int .i64 0, .int .i64 0, .int .i64 0, .int .i64 0, .int .i64 0, .slice none 0 0] : Array Value)[j]? := HF3.out.cells (i := 0) rfl rfl
    have hl24 : l.length ≤ 24 := checkB_len (getHead_parts HG.out).2.1
    have hs256 := (getHead_parts HG.out).1
    go_upto_region 3 with fail
    by_cases hlen : 256 * (1 + l.length) ≤ s.length
    · obtain ⟨sz, hsz⟩ : ∃ sz : Nat, sz = 256 * (1 + l.length) := ⟨_, rfl⟩
      have hszi : 256 * (1 + (l.length : Int)) = (sz : Int) := by omega
      rw [hszi]
      have HSZ := Lib.hid hsz
      have z1 : (256 : Int) ≤ (sz : Int) := by omega
      have z2 : (sz : Int) ≤ (s.length : Int) := by omega
      have z3 : (256 : Int) ≤ (s.length : Int) := by omega
      have hd : decide (s.length < sz) = false := by simp; omega
      have HB := Lib.hid (Below.refl W3.heap.size W3)
      clear hszi hsz hlen hs256 hl24 hs e0 f0
      have hm1 : (s.take 256).length ≤ 140737488351232 := by rw [List.length_take]; omega
      have hm2 : ((s.drop 256).take (sz - 256)).length ≤ 140737488000000 := by have := HS.out; rw [List.length_take, List.length_drop]; omega
      have HM1 := Lib.hid hm1
      have HM2 := Lib.hid hm2
      have HBD : Hid ((s.take (256 * (1 + l.length))).drop 256 = (s.drop 256).take (sz - 256)) := by unfold Hid; rw [← HSZ.out, List.drop_take]
      have HSUM : Hid (∀ W, Calls Try.prog 36 #[.string (bs (s.take 256)), .string (bs ((s.drop 256).take (sz - 256)))] W fun e w' => e = .returned (.int .i64 (sumOf (s.take 256) ((s.drop 256).take (sz - 256)))) ∧ Below W.heap.size W w') := fun W => (refsum_any _ _ W HM1.out HM2.out).mono (fun e w' h => ⟨h.1, h.2 ▸ Below.refl _ _⟩)
      clear hm1 hm2
      generalize hsm : sumOf (s.take 256) ((s.drop 256).take (sz - 256)) = sm at *
      have HSM := Lib.hid hsm
      clear hsm
      by_cases hn : sm = n
      · have hnb : (sm != n) = false := by rw [bne_eq_false_iff_eq]; exact hn
        have HCG : Hid (chunkGet s = some (h, l, cutB s l.length)) := by
          unfold Hid chunkGet
          rw [HG.out]
          simp only
          rw [if_pos ⟨by rw [← HSZ.out]; omega, by rw [HBD.out, HSM.out]; exact hn⟩]
        clear hn
        go_region_held3 (fun w' => True) (exact trivial) ((go_at_call 36; refine (HSUM.out _).mono ?_; rintro e v1 ⟨rfl, hb⟩; have HB' := Lib.hid (HB.out.trans (by first | exact hb.mono HB.out.size | exact (below_of_drew hb).mono HB.out.size)); clear HB hb; have HB := HB'; clear HB'))
        have HF4 := Lib.hid (HF3.out.below HB.out)
        have HX4 := Lib.hid (HX3.out.below HB.out)
        have HO4 := Lib.hid (HO3.out.below HB.out)
        have HLQ : Hid (l.length ≤ 24) := checkB_len (getHead_parts HG.out).2.1
        clear HF3 HX3 HO3 HB HO2 HSUM HSM HBD
        have HBB := Lib.hid (Below.refl v1.heap.size v1)
        go_wp2_with fail
        go_loopw [9, 10] (fun bl at_ wr => ∃ (k p : Nat) (A2 : Option Addr) (c2 : Nat), k ≤ l.length ∧ p = 256 * (k + 1) ∧ at_ = .int .i64 p ∧ bl = .slice A2 (cutB s k).length c2 ∧ ES.Own wr v1.heap.size (.slice A2 (cutB s k).length c2) (cutB s k) ∧ Below v1.heap.size v1 wr) (fun _ at_ _ => 100000 - (intOf at_).toNat)
        case atStart => exact ⟨0, 256, none, 0, by omega, rfl, rfl, rfl, El.Own.nil _ _, HBB.out⟩
        clear HBB
        case round =>
          obtain ⟨k, p, A2, c2, hk, hp, rfl, rfl, ho, hb⟩ := hrel
          have HO := Lib.hid ho
          have HB := Lib.hid hb
          have HPP := Lib.hid hp
          clear ho hb
          have hszk := HSZ.out
          have hlq := HLQ.out
          by_cases hlt : k < l.length
          · have hpz : (p : Int) < (sz : Int) := by omega
            have hpe : (p : Int) + 256 ≤ (s.length : Int) := by omega
            have HCS : Hid (cutB s (k + 1) = cutB s k ++ [(s.drop p).take 256]) := by unfold Hid; rw [cutB_succ, HPP.out]
            have HCL : Hid ((cutB s k).length = k) := cutB_len s k
            have HKB : Hid (k ≤ 24) := by unfold Hid; omega
            have HP1 : Hid (p + 256 = 256 * (k + 1 + 1)) := by unfold Hid; omega
            have hp7 : p ≤ 10000 := by omega
            clear hp hszk hlq z1 z2 z3
            go_wp2_with (at_builtin; refine ES.app (w0 := v1) rfl _ _ rfl v1.heap.size (.slice A2 (cutB s k).length c2) (cutB s k) ((s.drop p).take 256) rfl HO.out rfl _ rfl ?cb ?cm HB.out.size HB.out ?_; (case cb => have := HKB.out; rw [HCL.out]; simp only [ES]; omega); (case cm => have := HKB.out; rw [HCL.out]; omega); intro v' w4 ho hb hg hat; obtain ⟨B', b', rfl, -⟩ := ho.reads; have HO5 := Lib.hid ho; have HB5 := Lib.hid hb; clear ho hb hg hat)
            have HO6 : Hid (ES.Own w4 v1.heap.size (.slice B' (cutB s (k + 1)).length b') (cutB s (k + 1))) := by unfold Hid; rw [HCS.out]; exact HO5.out
            have HL6 : Hid ((cutB s (k + 1)).length = (cutB s k).length + 1) := by unfold Hid; rw [cutB_len, cutB_len]
            go_roundw
            case rel => exact ⟨k + 1, p + 256, B', b', by omega, HP1.out, by go_num, by rw [HL6.out], HO6.out, HB5.out⟩
            case measure => simp only [intOf]; omega
          · obtain rfl : k = l.length := by omega
            have HF5 := Lib.hid (HF4.out.below HB.out)
            have HO5 := Lib.hid (HO4.out.below HB.out)
            have hpz : ¬ (p : Int) < (sz : Int) := by omega
            have HX5 := Lib.hid (HX4.out.below HB.out)
            have e0 : ∀ j : Nat, wr.cell? ⟨w2.heap.size, j, none⟩ = (#[.int .i64 h.house, .int .i64 h.gen, .int .i64 h.life, .int .i64 h.seq, .int .i64 h.next, .int .i64 h.clock, .int .i64 h.sb, .int .i64 h.sn, .slice A l.length c] : Array Value)[j]? := HX5.out.cells (i := 0) rfl rfl
            have f0 := HF5.out.frees (i := 0) (b := w.heap.size) rfl rfl
            have z0 : ∀ j : Nat, wr.cell? ⟨w.heap.size, j, none⟩ = (#[.int .i64 0, .int .i64 0, .int .i64 0, .int .i64 0, .int .i64 0, .int .i64 0, .int .i64 0, .int .i64 0, .slice none 0 0] : Array Value)[j]? := HF5.out.cells (i := 0) rfl rfl
            have hlt1 : w.heap.size < v1.heap.size := HF4.out.lt (i := 0) (by simp) rfl
            have HL1 := Lib.hid hlt1
            clear hp hszk hlq z1 z2 z3 HF4 HO4 hlt1
            go_wp2_with fail
            have HZ : Hid (Fr w (((((((((wr.setCell ⟨w.heap.size, 0, none⟩ (.int .i64 h.house)).setCell ⟨w.heap.size, 1, none⟩ (.int .i64 h.gen)).setCell ⟨w.heap.size, 2, none⟩ (.int .i64 h.life)).setCell ⟨w.heap.size, 3, none⟩ (.int .i64 h.seq)).setCell ⟨w.heap.size, 4, none⟩ (.int .i64 h.next)).setCell ⟨w.heap.size, 5, none⟩ (.int .i64 h.clock)).setCell ⟨w.heap.size, 6, none⟩ (.int .i64 h.sb)).setCell ⟨w.heap.size, 7, none⟩ (.int .i64 h.sn)).setCell ⟨w.heap.size, 8, none⟩ (.slice A l.length c)) [(#[.int .i64 h.house, .int .i64 h.gen, .int .i64 h.life, .int .i64 h.seq, .int .i64 h.next, .int .i64 h.clock, .int .i64 h.sb, .int .i64 h.sn, .slice A l.length c], 24)] ∧ EE.Own (((((((((wr.setCell ⟨w.heap.size, 0, none⟩ (.int .i64 h.house)).setCell ⟨w.heap.size, 1, none⟩ (.int .i64 h.gen)).setCell ⟨w.heap.size, 2, none⟩ (.int .i64 h.life)).setCell ⟨w.heap.size, 3, none⟩ (.int .i64 h.seq)).setCell ⟨w.heap.size, 4, none⟩ (.int .i64 h.next)).setCell ⟨w.heap.size, 5, none⟩ (.int .i64 h.clock)).setCell ⟨w.heap.size, 6, none⟩ (.int .i64 h.sb)).setCell ⟨w.heap.size, 7, none⟩ (.int .i64 h.sn)).setCell ⟨w.heap.size, 8, none⟩ (.slice A l.length c)) (w.heap.size + 1) (.slice A l.length c) l ∧ ES.Own (((((((((wr.setCell ⟨w.heap.size, 0, none⟩ (.int .i64 h.house)).setCell ⟨w.heap.size, 1, none⟩ (.int .i64 h.gen)).setCell ⟨w.heap.size, 2, none⟩ (.int .i64 h.life)).setCell ⟨w.heap.size, 3, none⟩ (.int .i64 h.seq)).setCell ⟨w.heap.size, 4, none⟩ (.int .i64 h.next)).setCell ⟨w.heap.size, 5, none⟩ (.int .i64 h.clock)).setCell ⟨w.heap.size, 6, none⟩ (.int .i64 h.sb)).setCell ⟨w.heap.size, 7, none⟩ (.int .i64 h.sn)).setCell ⟨w.heap.size, 8, none⟩ (.slice A l.length c)) v1.heap.size (.slice A2 (cutB s l.length).length c2) (cutB s l.length)) := ⟨((((((((((HF5.out.set (i := 0) (b := w.heap.size) rfl rfl 0 (.int .i64 h.house)).set (i := 0) (b := w.heap.size) rfl rfl 1 (.int .i64 h.gen)).set (i := 0) (b := w.heap.size) rfl rfl 2 (.int .i64 h.life)).set (i := 0) (b := w.heap.size) rfl rfl 3 (.int .i64 h.seq)).set (i := 0) (b := w.heap.size) rfl rfl 4 (.int .i64 h.next)).set (i := 0) (b := w.heap.size) rfl rfl 5 (.int .i64 h.clock)).set (i := 0) (b := w.heap.size) rfl rfl 6 (.int .i64 h.sb)).set (i := 0) (b := w.heap.size) rfl rfl 7 (.int .i64 h.sn)).set (i := 0) (b := w.heap.size) rfl rfl 8 (.slice A l.length c)).at' (bl' := [(#[.int .i64 h.house, .int .i64 h.gen, .int .i64 h.life, .int .i64 h.seq, .int .i64 h.next, .int .i64 h.clock, .int .i64 h.sb, .int .i64 h.sn, .slice A l.length c], 24)]) (by simp only [List.setIfInBounds_toArray, List.set_cons_zero, List.set_cons_succ])), (((((((((HO5.out.set (p := ⟨w.heap.size, 0, none⟩) (Nat.lt_succ_self _) (.int .i64 h.house)).set (p := ⟨w.heap.size, 1, none⟩) (Nat.lt_succ_self _) (.int .i64 h.gen)).set (p := ⟨w.heap.size, 2, none⟩) (Nat.lt_succ_self _) (.int .i64 h.life)).set (p := ⟨w.heap.size, 3, none⟩) (Nat.lt_succ_self _) (.int .i64 h.seq)).set (p := ⟨w.heap.size, 4, none⟩) (Nat.lt_succ_self _) (.int .i64 h.next)).set (p := ⟨w.heap.size, 5, none⟩) (Nat.lt_succ_self _) (.int .i64 h.clock)).set (p := ⟨w.heap.size, 6, none⟩) (Nat.lt_succ_self _) (.int .i64 h.sb)).set (p := ⟨w.heap.size, 7, none⟩) (Nat.lt_succ_self _) (.int .i64 h.sn)).set (p := ⟨w.heap.size, 8, none⟩) (Nat.lt_succ_self _) (.slice A l.length c)), (((((((((HO.out.set (p := ⟨w.heap.size, 0, none⟩) HL1.out (.int .i64 h.house)).set (p := ⟨w.heap.size, 1, none⟩) HL1.out (.int .i64 h.gen)).set (p := ⟨w.heap.size, 2, none⟩) HL1.out (.int .i64 h.life)).set (p := ⟨w.heap.size, 3, none⟩) HL1.out (.int .i64 h.seq)).set (p := ⟨w.heap.size, 4, none⟩) HL1.out (.int .i64 h.next)).set (p := ⟨w.heap.size, 5, none⟩) HL1.out (.int .i64 h.clock)).set (p := ⟨w.heap.size, 6, none⟩) HL1.out (.int .i64 h.sb)).set (p := ⟨w.heap.size, 7, none⟩) HL1.out (.int .i64 h.sn)).set (p := ⟨w.heap.size, 8, none⟩) HL1.out (.slice A l.length c))⟩
            clear e0 f0 z0
            refine (fun (hk : ∀ W, (Fr w W [(#[.int .i64 h.house, .int .i64 h.gen, .int .i64 h.life, .int .i64 h.seq, .int .i64 h.next, .int .i64 h.clock, .int .i64 h.sb, .int .i64 h.sn, .slice A l.length c], 24)] ∧ EE.Own W (w.heap.size + 1) (.slice A l.length c) l ∧ ES.Own W v1.heap.size (.slice A2 (cutB s l.length).length c2) (cutB s l.length)) → bodyPost Try.prog Try.f58 _ Exit.ret _ W) => hk _ HZ.out) ?_
            intro W hst
            have HW := Lib.hid hst
            have dd : ∀ j : Nat, W.cell? ⟨w.heap.size, j, none⟩ = (#[.int .i64 h.house, .int .i64 h.gen, .int .i64 h.life, .int .i64 h.seq, .int .i64 h.next, .int .i64 h.clock, .int .i64 h.sb, .int .i64 h.sn, .slice A l.length c] : Array Value)[j]? := hst.1.cells (i := 0) rfl rfl
            clear hst
            have HCL : Hid ((cutB s l.length).length = l.length) := cutB_len _ _
            refine bodyPost_ret (v := .tuple #[.agg #[.int .i64 h.house, .int .i64 h.gen, .int .i64 h.life, .int .i64 h.seq, .int .i64 h.next, .int .i64 h.clock, .int .i64 h.sb, .int .i64 h.sn, .slice A l.length c], .slice A2 (cutB s l.length).length c2, .bool true]) (by simp [results, Try.results58, go_sem, dd]) rfl ⟨HW.out.1.bel, .inr ?_⟩
            exact ⟨h, l, cutB s l.length, HCG.out, .slice A l.length c, HW.out.2.1.mono (Nat.le_succ _), A2, c2, HW.out.2.2.mono (Nat.le_of_lt HL1.out), HCL.out, rfl⟩
      · have hnb : (sm != n) = true := by rw [bne_iff_ne]; exact hn
        have HN : Hid (chunkGet s = none) := by
          unfold Hid chunkGet
          rw [HG.out]
          simp only
          rw [if_neg (by rw [HBD.out, HSM.out]; exact fun h => hn h.2)]
        clear hn
        go_region_held3 (fun w' => True) (exact trivial) ((go_at_call 36; refine (HSUM.out _).mono ?_; rintro e v1 ⟨rfl, hb⟩; have HB' := Lib.hid (HB.out.trans (by first | exact hb.mono HB.out.size | exact (below_of_drew hb).mono HB.out.size)); clear HB hb; have HB := HB'; clear HB'))
        have HF4 := Lib.hid (HF3.out.below HB.out)
        have f0 := HF4.out.frees (i := 0) (b := w.heap.size) rfl rfl
        have z0 : ∀ j : Nat, v1.cell? ⟨w.heap.size, j, none⟩ = (#[.int .i64 0, .int .i64 0, .int .i64 0, .int .i64 0, .int .i64 0, .int .i64 0, .int .i64 0, .int .i64 0, .slice none 0 0] : Array Value)[j]? := HF4.out.cells (i := 0) rfl rfl
        clear HF3
        go_wp2_with fail
        have HZ : Hid (Fr w (((((((((v1.setCell ⟨w.heap.size, 0, none⟩ (.int .i64 0)).setCell ⟨w.heap.size, 1, none⟩ (.int .i64 0)).setCell ⟨w.heap.size, 2, none⟩ (.int .i64 0)).setCell ⟨w.heap.size, 3, none⟩ (.int .i64 0)).setCell ⟨w.heap.size, 4, none⟩ (.int .i64 0)).setCell ⟨w.heap.size, 5, none⟩ (.int .i64 0)).setCell ⟨w.heap.size, 6, none⟩ (.int .i64 0)).setCell ⟨w.heap.size, 7, none⟩ (.int .i64 0)).setCell ⟨w.heap.size, 8, none⟩ (.slice none 0 0)) [(#[.int .i64 0, .int .i64 0, .int .i64 0, .int .i64 0, .int .i64 0, .int .i64 0, .int .i64 0, .int .i64 0, .slice none 0 0], 24)]) := ((((((((((HF4.out.set (i := 0) (b := w.heap.size) rfl rfl 0 (.int .i64 0)).set (i := 0) (b := w.heap.size) rfl rfl 1 (.int .i64 0)).set (i := 0) (b := w.heap.size) rfl rfl 2 (.int .i64 0)).set (i := 0) (b := w.heap.size) rfl rfl 3 (.int .i64 0)).set (i := 0) (b := w.heap.size) rfl rfl 4 (.int .i64 0)).set (i := 0) (b := w.heap.size) rfl rfl 5 (.int .i64 0)).set (i := 0) (b := w.heap.size) rfl rfl 6 (.int .i64 0)).set (i := 0) (b := w.heap.size) rfl rfl 7 (.int .i64 0)).set (i := 0) (b := w.heap.size) rfl rfl 8 (.slice none 0 0)).at' (bl' := [(#[.int .i64 0, .int .i64 0, .int .i64 0, .int .i64 0, .int .i64 0, .int .i64 0, .int .i64 0, .int .i64 0, .slice none 0 0], 24)]) (by simp only [List.setIfInBounds_toArray, List.set_cons_zero, List.set_cons_succ]))
        clear f0 z0
        refine (fun (hk : ∀ W, Fr w W [(#[.int .i64 0, .int .i64 0, .int .i64 0, .int .i64 0, .int .i64 0, .int .i64 0, .int .i64 0, .int .i64 0, .slice none 0 0], 24)] → bodyPost Try.prog Try.f58 _ Exit.ret _ W) => hk _ HZ.out) ?_
        intro W hst
        have HW := Lib.hid hst
        have dd : ∀ j : Nat, W.cell? ⟨w.heap.size, j, none⟩ = (#[.int .i64 0, .int .i64 0, .int .i64 0, .int .i64 0, .int .i64 0, .int .i64 0, .int .i64 0, .int .i64 0, .slice none 0 0] : Array Value)[j]? := hst.cells (i := 0) rfl rfl
        clear hst
        refine bodyPost_ret (v := .tuple #[.agg #[.int .i64 0, .int .i64 0, .int .i64 0, .int .i64 0, .int .i64 0, .int .i64 0, .int .i64 0, .int .i64 0, .slice none 0 0], .slice none 0 0, .bool false]) (by simp [results, Try.results58, go_sem, dd]) rfl ⟨HW.out.bel, .inl ⟨HN.out, rfl⟩⟩
    · have HN : Hid (chunkGet s = none) := by unfold Hid chunkGet; rw [HG.out]; simp only; rw [if_neg (fun h => hlen h.1)]
      have hd : decide ((s.length : Int) < 256 * (1 + (l.length : Int))) = true := by simp; omega
      go_quiet (fail)
      go_wp2_with fail
      have HZ : Hid (∀ n, Fr w ((((((((((W3.drewN n).setCell ⟨w.heap.size, 0, none⟩ (.int .i64 0)).setCell ⟨w.heap.size, 1, none⟩ (.int .i64 0)).setCell ⟨w.heap.size, 2, none⟩ (.int .i64 0)).setCell ⟨w.heap.size, 3, none⟩ (.int .i64 0)).setCell ⟨w.heap.size, 4, none⟩ (.int .i64 0)).setCell ⟨w.heap.size, 5, none⟩ (.int .i64 0)).setCell ⟨w.heap.size, 6, none⟩ (.int .i64 0)).setCell ⟨w.heap.size, 7, none⟩ (.int .i64 0)).setCell ⟨w.heap.size, 8, none⟩ (.slice none 0 0)) [(#[.int .i64 0, .int .i64 0, .int .i64 0, .int .i64 0, .int .i64 0, .int .i64 0, .int .i64 0, .int .i64 0, .slice none 0 0], 24)]) := fun n => (((((((((((fr_drewN HF3.out n).set (i := 0) (b := w.heap.size) rfl rfl 0 (.int .i64 0)).set (i := 0) (b := w.heap.size) rfl rfl 1 (.int .i64 0)).set (i := 0) (b := w.heap.size) rfl rfl 2 (.int .i64 0)).set (i := 0) (b := w.heap.size) rfl rfl 3 (.int .i64 0)).set (i := 0) (b := w.heap.size) rfl rfl 4 (.int .i64 0)).set (i := 0) (b := w.heap.size) rfl rfl 5 (.int .i64 0)).set (i := 0) (b := w.heap.size) rfl rfl 6 (.int .i64 0)).set (i := 0) (b := w.heap.size) rfl rfl 7 (.int .i64 0)).set (i := 0) (b := w.heap.size) rfl rfl 8 (.slice none 0 0)).at' (bl' := [(#[.int .i64 0, .int .i64 0, .int .i64 0, .int .i64 0, .int .i64 0, .int .i64 0, .int .i64 0, .int .i64 0, .slice none 0 0], 24)]) (by simp only [List.setIfInBounds_toArray, List.set_cons_zero, List.set_cons_succ]))
      clear e0 f0 z0
      refine (fun (hk : ∀ W, Fr w W [(#[.int .i64 0, .int .i64 0, .int .i64 0, .int .i64 0, .int .i64 0, .int .i64 0, .int .i64 0, .int .i64 0, .slice none 0 0], 24)] → bodyPost Try.prog Try.f58 _ Exit.ret _ W) => hk _ (HZ.out _)) ?_
      intro W hst
      have HW := Lib.hid hst
      have dd : ∀ j : Nat, W.cell? ⟨w.heap.size, j, none⟩ = (#[.int .i64 0, .int .i64 0, .int .i64 0, .int .i64 0, .int .i64 0, .int .i64 0, .int .i64 0, .int .i64 0, .slice none 0 0] : Array Value)[j]? := hst.cells (i := 0) rfl rfl
      clear hst
      refine bodyPost_ret (v := .tuple #[.agg #[.int .i64 0, .int .i64 0, .int .i64 0, .int .i64 0, .int .i64 0, .int .i64 0, .int .i64 0, .int .i64 0, .slice none 0 0], .slice none 0 0, .bool false]) (by simp [results, Try.results58, go_sem, dd]) rfl ⟨HW.out.bel, .inl ⟨HN.out, rfl⟩⟩
end
end Go.Proofs.Ytjoplgdcpihmaaa
