/- Chunks: awake, same strings. -/
import Derived.Test.YtjoplgdcpihmaaaChkB
import Derived.BigQuiet
import Derived.Deep.QuietTactic
namespace Go.Proofs.Ytjoplgdcpihmaaa
open Go.RowKit
theorem parse_some (s : List UInt8) (h : Hd) (l : List Ent) (B : List (List UInt8)) (w : World) (hs : s.length ≤ 100000000) (hg : chunkGet s = some (h, l, B)) :
    Calls Try.prog 57 #[.string (bs s)] w fun e w' => Below w.heap.size w w' ∧ ∃ A2 c2 A c, e = .returned (.tuple #[.agg #[.int .i64 h.house, .int .i64 h.gen, .int .i64 h.life, .int .i64 h.seq, .int .i64 h.next, .int .i64 h.clock, .int .i64 h.sb, .int .i64 h.sn, .slice A2 l.length c2], .slice A B.length c, .bool true]) ∧ EE.Own w' w.heap.size (.slice A2 l.length c2) l ∧ ES.Own w' w.heap.size (.slice A B.length c) B := by
  refine (parse_any s w hs).mono ?_
  rintro e w' ⟨hb, ⟨h1, -⟩ | ⟨h', l', B', vE, A, c, h1, h2, h3, h4, h5⟩⟩
  · rw [hg] at h1; cases h1
  · rw [hg] at h1
    simp only [Option.some.injEq, Prod.mk.injEq] at h1
    obtain ⟨rfl, rfl, rfl⟩ := h1
    obtain ⟨A2, c2, rfl, -⟩ := h2.reads
    exact ⟨hb, A2, c2, A, c, h5, h2, h3⟩
theorem parse_none (s : List UInt8) (w : World) (hs : s.length ≤ 100000000) (hg : chunkGet s = none) :
    Calls Try.prog 57 #[.string (bs s)] w fun e w' => e = .returned (.tuple #[.agg #[.int .i64 0, .int .i64 0, .int .i64 0, .int .i64 0, .int .i64 0, .int .i64 0, .int .i64 0, .int .i64 0, .slice none 0 0], .slice none 0 0, .bool false]) ∧ Below w.heap.size w w' := by
  refine (parse_any s w hs).mono ?_
  rintro e w' ⟨hb, ⟨-, h1⟩ | ⟨h', l', B', vE, A, c, h1, -⟩⟩
  · exact ⟨h1, hb⟩
  · rw [hg] at h1; cases h1
theorem make_val (h : Hd) (vE : Value) (l : List Ent) (v : Value) (B : List (List UInt8)) (r : Option (List UInt8)) (w : World) (hE : EE.Reads w vE l) (hr : ES.Reads w v B) (hl : l.length * 24 ≤ 140737488351232) (hB : B.length ≤ 100000) (hp : chunkPut h l B = r) :
    Calls Try.prog 55 #[.agg #[.int .i64 h.house, .int .i64 h.gen, .int .i64 h.life, .int .i64 h.seq, .int .i64 h.next, .int .i64 h.clock, .int .i64 h.sb, .int .i64 h.sn, vE], v] w fun e w' => e = .returned (.tuple #[.string (bs (r.getD [])), .bool r.isSome]) ∧ Below w.heap.size w w' := hp ▸ make_any h vE l v B w hE hr hl hB
theorem chunkPut_is {h : Hd} {l : List Ent} {B : List (List UInt8)} (hc : checkB h l = true) (hl : B.length = l.length) (hb : ∀ b ∈ B, b.length = 256) : ∃ s, chunkPut h l B = some s := by
  unfold chunkPut
  rw [if_pos (allB_iff.2 hb), headPut_is hc (by rw [flat_len hb]; omega)]
  exact ⟨_, rfl⟩
def hd1 : Hd := ⟨1, 1, 1, 1, 0, 0, 0, 0⟩
section
attribute [local go_sem] bs_size bs_append
attribute [local go_sem ↓] Go.wp_at_zero Go.wp_at_succ
set_option maxRecDepth 100000 in
set_option maxHeartbeats 4000000 in
theorem awake13_any (w : World) : Calls Try.prog 54 #[] w fun e w' => e = .returned (.bool true) ∧ Below w.heap.size w w' := by
  obtain ⟨s, hs⟩ := chunkPut_is (h := hd1) (l := []) (B := []) (by decide) rfl (fun b hb => by cases hb)
  have HP := Lib.hid hs
  have HG := Lib.hid (chunk_back hs [109, 111, 114, 101])
  have hsl : s.length = 256 := (chunkPut_parts hs).choose_spec.2.2.2.2.2.2
  have HSL := Lib.hid hsl
  have hsi : (s.length : Int) = 256 := by omega
  have hm : ByteArray.mk #[109, 111, 114, 101] = bs [109, 111, 114, 101] := rfl
  clear hs
  go_enter Try.func54, Try.ntmps54
  go_wp2_with fail
  refine (make_val hd1 (.slice none 0 0) [] (.slice none 0 0) [] (some s) _ (El.Reads.nil _) (El.Reads.nil _) (by decide) (by decide) HP.out).mono ?_
  rintro e w1 ⟨rfl, hb⟩
  have HB1 := Lib.hid hb
  clear hb
  simp only [Option.getD_some, Option.isSome_some]
  go_wp2_with fail
  refine (parse_some (s ++ [109, 111, 114, 101]) hd1 [] [] _ (by rw [List.length_append, HSL.out]; decide) HG.out).mono ?_
  rintro e w2 ⟨hb, A2, c2, A, c, rfl, -, -⟩
  have HB2 := Lib.hid (HB1.out.trans (hb.mono HB1.out.size))
  clear hb hm
  have HB3 := Lib.hid (HB2.out.alloc HB2.out.size (.cells #[.int .i64 1, .int .i64 1, .int .i64 1, .int .i64 1, .int .i64 0, .int .i64 0, .int .i64 0, .int .i64 0, .slice A2 0 c2] 24))
  go_wp2_with fail
  go_ret
  exact ⟨rfl, HB3.out⟩
end
section
set_option maxRecDepth 100000 in
set_option maxHeartbeats 4000000 in
theorem samestr_any (v v2 : Value) (l : List (List UInt8)) (w : World) (hr : ES.Reads w v l) (hr2 : ES.Reads w v2 l) (hl : l.length ≤ 100000) :
    Calls Try.prog 59 #[v, v2] w fun e w' => e = .returned (.bool true) ∧ Below w.heap.size w w' := by
  have hr' := hr
  obtain ⟨A, c, rfl, hc, -⟩ := hr'
  have hr' := hr2
  obtain ⟨A2, cc2, rfl, hcc2, -⟩ := hr'
  have HR := Lib.hid hr
  have HR2 := Lib.hid hr2
  have HB0 := Lib.hid (Below.refl w.heap.size w)
  clear hr hr2
  go_enter Try.func59, Try.ntmps59
  go_wp2
  go_loopw [5] (fun i wr => ∃ k : Nat, k ≤ l.length ∧ i = .int .i64 k ∧ Below w.heap.size w wr) (fun i _ => l.length - (intOf i).toNat)
  case atStart => exact ⟨0, by omega, rfl, HB0.out⟩
  clear HB0
  case round =>
    obtain ⟨k, hk, rfl, hb⟩ := hrel
    have HB := Lib.hid hb
    clear hb
    by_cases hlt : k < l.length
    · obtain ⟨x, hx⟩ : ∃ x, l[k]? = some x := ⟨_, List.getElem?_eq_getElem hlt⟩
      obtain ⟨b, o, c', hv, hbw, e0⟩ := ES_at (HR.out.below HB.out) k x hx
      obtain ⟨b2, o2, c2', hv2, hbw2, f0⟩ := ES_at (HR2.out.below HB.out) k x hx
      simp only [Value.slice.injEq] at hv hv2
      obtain ⟨rfl, -, rfl⟩ := hv
      obtain ⟨rfl, -, rfl⟩ := hv2
      clear hx
      have i0 : (0 : Int) ≤ (k : Int) := by omega
      have i1 : (k : Int) < (l.length : Int) := by omega
      go_wp2
      go_quiet (fail)
      go_wp2
      go_roundw
      case rel => exact ⟨k + 1, by omega, by go_num, below_drewN HB.out _⟩
      case measure => simp only [intOf]; omega
    · go_wp2
      go_ret
      exact ⟨rfl, HB.out⟩
end
end Go.Proofs.Ytjoplgdcpihmaaa
