/- awake (tables). -/
import Derived.Test.YtjoplgdcpihmaaaTabL
namespace Go.Proofs.Ytjoplgdcpihmaaa
open Go.RowKit
theorem zeros_ok : tableB 65536 (List.replicate 16 hd0) = true := by decide +kernel
theorem zeros_put : ∃ t, tablePut 3 (List.replicate 16 hd0) = some t := ⟨_, if_pos ⟨by decide, zeros_ok⟩⟩
theorem zeros_read (n : Nat) : (List.replicate n (⟨hd0, none, 0⟩ : HM)).map (·.d) = List.replicate n hd0 := by simp
theorem zeros_reads {W : World} {v : Value} {n : Nat} (h : EH.Reads W v (List.replicate n ⟨hd0, none, 0⟩)) : HReads W v (List.replicate n ⟨hd0, none, 0⟩) := ⟨h, fun x hx => by
  obtain ⟨-, rfl⟩ := List.mem_replicate.1 hx
  exact El.Reads.nil _⟩
section
attribute [local go_sem] bs_size
attribute [local go_sem ↓] Go.wp_at_zero Go.wp_at_succ
set_option maxRecDepth 100000 in
set_option maxHeartbeats 4000000 in
theorem awake6_any (w : World) : Calls Try.prog 40 #[] w fun e w' => e = .returned (.bool true) ∧ Below w.heap.size w w' := by
  obtain ⟨t, ht⟩ := zeros_put
  have HT := Lib.hid ht
  have hl := tablePut_len ht
  have HG := Lib.hid (table_back ht)
  clear ht
  obtain ⟨C, hmk, hown⟩ := El.mk_row EH ⟨hd0, none, 0⟩ rfl 16 (by decide) (by decide) w.heap.size w (Nat.le_refl _)
  have hmk' : (Instr.makeSlice 46 (.int .i64 16) (.int .i64 16)).run Try.prog w = .ok (.slice (some ⟨w.heap.size, 0, none⟩) 16 16) (w.alloc (.cells C 61)) := hmk
  have HR : Hid (HReads (w.alloc (.cells C 61)) (.slice (some ⟨w.heap.size, 0, none⟩) 16 16) (List.replicate 16 ⟨hd0, none, 0⟩)) := zeros_reads hown.reads
  have HB := Lib.hid ((Below.refl w.heap.size w).alloc (Nat.le_refl _) (.cells C 61))
  clear hmk hown
  go_enter Try.func40, Try.ntmps40
  go_wp2_with fail
  clear hmk'
  generalize w.alloc (.cells C 61) = W1 at *
  refine (tput_val 3 _ _ _ HR.out (by decide) (fun h hh => by obtain ⟨-, rfl⟩ := List.mem_replicate.1 hh; decide) (some t) (by rw [zeros_read]; exact HT.out)).mono ?_
  rintro e w2 ⟨rfl, hb⟩
  have HB2 := Lib.hid (HB.out.trans (hb.mono HB.out.size))
  clear hb
  unfold putAns
  simp only [Option.getD_some, Option.isSome_some]
  go_wp2_with fail
  refine (tget_any t _ (by omega)).mono ?_
  rintro e w3 ⟨hb, h⟩
  have HB3 := Lib.hid (HB2.out.trans (hb.mono HB2.out.size))
  clear hb
  rw [HG.out] at h
  rcases h with ⟨n, L, lb, l, h1, rfl, -, -, -, -⟩ | ⟨h1, -⟩
  · injection h1 with h1
    injection h1 with h1 h2
    subst h1
    go_wp2_with fail
    go_ret
    exact ⟨rfl, HB3.out⟩
  · cases h1
end
/-- A whole house stored. -/
theorem own_put {W : World} {base lb c : Nat} {l : List HM} (h : EH.Own W base (.slice (some ⟨lb, 0, none⟩) l.length c) l) (i : Nat) (x y : HM) (hi : l[i]? = some x) :
    EH.Own ((((((((((W.setCell ⟨lb, i * 10 + 0, none⟩ (.int .i64 y.d.st)).setCell ⟨lb, i * 10 + 1, none⟩ (.int .i64 y.d.gn)).setCell ⟨lb, i * 10 + 2, none⟩ (.int .i64 y.d.x.sg)).setCell ⟨lb, i * 10 + 3, none⟩ (.int .i64 y.d.x.hb)).setCell ⟨lb, i * 10 + 4, none⟩ (.int .i64 y.d.x.sb)).setCell ⟨lb, i * 10 + 5, none⟩ (.int .i64 y.d.x.hn)).setCell ⟨lb, i * 10 + 6, none⟩ (.int .i64 y.d.x.sn)).setCell ⟨lb, i * 10 + 7, none⟩ (.int .i64 y.d.x.gr)).setCell ⟨lb, i * 10 + 8, none⟩ (.int .i64 y.d.x.bu)).setCell ⟨lb, i * 10 + 9, none⟩ (.slice y.A y.d.segs.length y.c)) base (.slice (some ⟨lb, 0, none⟩) l.length c) (l.set i y) := by
  have h0 := El.Own.store h i 0 x ⟨⟨y.d.st, x.d.gn, ⟨x.d.x.sg, x.d.x.hb, x.d.x.sb, x.d.x.hn, x.d.x.sn, x.d.x.gr, x.d.x.bu⟩, x.d.segs⟩, x.A, x.c⟩ (.int .i64 y.d.st) hi (by decide) rfl
  have h0i : (l.set i (⟨⟨y.d.st, x.d.gn, ⟨x.d.x.sg, x.d.x.hb, x.d.x.sb, x.d.x.hn, x.d.x.sn, x.d.x.gr, x.d.x.bu⟩, x.d.segs⟩, x.A, x.c⟩ : HM))[i]? = some ⟨⟨y.d.st, x.d.gn, ⟨x.d.x.sg, x.d.x.hb, x.d.x.sb, x.d.x.hn, x.d.x.sn, x.d.x.gr, x.d.x.bu⟩, x.d.segs⟩, x.A, x.c⟩ := List.getElem?_set_self (List.getElem?_eq_some_iff.1 hi).1
  have h1 := El.Own.store h0 i 1 (⟨⟨y.d.st, x.d.gn, ⟨x.d.x.sg, x.d.x.hb, x.d.x.sb, x.d.x.hn, x.d.x.sn, x.d.x.gr, x.d.x.bu⟩, x.d.segs⟩, x.A, x.c⟩ : HM) ⟨⟨y.d.st, y.d.gn, ⟨x.d.x.sg, x.d.x.hb, x.d.x.sb, x.d.x.hn, x.d.x.sn, x.d.x.gr, x.d.x.bu⟩, x.d.segs⟩, x.A, x.c⟩ (.int .i64 y.d.gn) h0i (by decide) rfl
  rw [List.set_set] at h1
  have h1i : (l.set i (⟨⟨y.d.st, y.d.gn, ⟨x.d.x.sg, x.d.x.hb, x.d.x.sb, x.d.x.hn, x.d.x.sn, x.d.x.gr, x.d.x.bu⟩, x.d.segs⟩, x.A, x.c⟩ : HM))[i]? = some ⟨⟨y.d.st, y.d.gn, ⟨x.d.x.sg, x.d.x.hb, x.d.x.sb, x.d.x.hn, x.d.x.sn, x.d.x.gr, x.d.x.bu⟩, x.d.segs⟩, x.A, x.c⟩ := List.getElem?_set_self (List.getElem?_eq_some_iff.1 hi).1
  have h2 := El.Own.store h1 i 2 (⟨⟨y.d.st, y.d.gn, ⟨x.d.x.sg, x.d.x.hb, x.d.x.sb, x.d.x.hn, x.d.x.sn, x.d.x.gr, x.d.x.bu⟩, x.d.segs⟩, x.A, x.c⟩ : HM) ⟨⟨y.d.st, y.d.gn, ⟨y.d.x.sg, x.d.x.hb, x.d.x.sb, x.d.x.hn, x.d.x.sn, x.d.x.gr, x.d.x.bu⟩, x.d.segs⟩, x.A, x.c⟩ (.int .i64 y.d.x.sg) h1i (by decide) rfl
  rw [List.set_set] at h2
  have h2i : (l.set i (⟨⟨y.d.st, y.d.gn, ⟨y.d.x.sg, x.d.x.hb, x.d.x.sb, x.d.x.hn, x.d.x.sn, x.d.x.gr, x.d.x.bu⟩, x.d.segs⟩, x.A, x.c⟩ : HM))[i]? = some ⟨⟨y.d.st, y.d.gn, ⟨y.d.x.sg, x.d.x.hb, x.d.x.sb, x.d.x.hn, x.d.x.sn, x.d.x.gr, x.d.x.bu⟩, x.d.segs⟩, x.A, x.c⟩ := List.getElem?_set_self (List.getElem?_eq_some_iff.1 hi).1
  have h3 := El.Own.store h2 i 3 (⟨⟨y.d.st, y.d.gn, ⟨y.d.x.sg, x.d.x.hb, x.d.x.sb, x.d.x.hn, x.d.x.sn, x.d.x.gr, x.d.x.bu⟩, x.d.segs⟩, x.A, x.c⟩ : HM) ⟨⟨y.d.st, y.d.gn, ⟨y.d.x.sg, y.d.x.hb, x.d.x.sb, x.d.x.hn, x.d.x.sn, x.d.x.gr, x.d.x.bu⟩, x.d.segs⟩, x.A, x.c⟩ (.int .i64 y.d.x.hb) h2i (by decide) rfl
  rw [List.set_set] at h3
  have h3i : (l.set i (⟨⟨y.d.st, y.d.gn, ⟨y.d.x.sg, y.d.x.hb, x.d.x.sb, x.d.x.hn, x.d.x.sn, x.d.x.gr, x.d.x.bu⟩, x.d.segs⟩, x.A, x.c⟩ : HM))[i]? = some ⟨⟨y.d.st, y.d.gn, ⟨y.d.x.sg, y.d.x.hb, x.d.x.sb, x.d.x.hn, x.d.x.sn, x.d.x.gr, x.d.x.bu⟩, x.d.segs⟩, x.A, x.c⟩ := List.getElem?_set_self (List.getElem?_eq_some_iff.1 hi).1
  have h4 := El.Own.store h3 i 4 (⟨⟨y.d.st, y.d.gn, ⟨y.d.x.sg, y.d.x.hb, x.d.x.sb, x.d.x.hn, x.d.x.sn, x.d.x.gr, x.d.x.bu⟩, x.d.segs⟩, x.A, x.c⟩ : HM) ⟨⟨y.d.st, y.d.gn, ⟨y.d.x.sg, y.d.x.hb, y.d.x.sb, x.d.x.hn, x.d.x.sn, x.d.x.gr, x.d.x.bu⟩, x.d.segs⟩, x.A, x.c⟩ (.int .i64 y.d.x.sb) h3i (by decide) rfl
  rw [List.set_set] at h4
  have h4i : (l.set i (⟨⟨y.d.st, y.d.gn, ⟨y.d.x.sg, y.d.x.hb, y.d.x.sb, x.d.x.hn, x.d.x.sn, x.d.x.gr, x.d.x.bu⟩, x.d.segs⟩, x.A, x.c⟩ : HM))[i]? = some ⟨⟨y.d.st, y.d.gn, ⟨y.d.x.sg, y.d.x.hb, y.d.x.sb, x.d.x.hn, x.d.x.sn, x.d.x.gr, x.d.x.bu⟩, x.d.segs⟩, x.A, x.c⟩ := List.getElem?_set_self (List.getElem?_eq_some_iff.1 hi).1
  have h5 := El.Own.store h4 i 5 (⟨⟨y.d.st, y.d.gn, ⟨y.d.x.sg, y.d.x.hb, y.d.x.sb, x.d.x.hn, x.d.x.sn, x.d.x.gr, x.d.x.bu⟩, x.d.segs⟩, x.A, x.c⟩ : HM) ⟨⟨y.d.st, y.d.gn, ⟨y.d.x.sg, y.d.x.hb, y.d.x.sb, y.d.x.hn, x.d.x.sn, x.d.x.gr, x.d.x.bu⟩, x.d.segs⟩, x.A, x.c⟩ (.int .i64 y.d.x.hn) h4i (by decide) rfl
  rw [List.set_set] at h5
  have h5i : (l.set i (⟨⟨y.d.st, y.d.gn, ⟨y.d.x.sg, y.d.x.hb, y.d.x.sb, y.d.x.hn, x.d.x.sn, x.d.x.gr, x.d.x.bu⟩, x.d.segs⟩, x.A, x.c⟩ : HM))[i]? = some ⟨⟨y.d.st, y.d.gn, ⟨y.d.x.sg, y.d.x.hb, y.d.x.sb, y.d.x.hn, x.d.x.sn, x.d.x.gr, x.d.x.bu⟩, x.d.segs⟩, x.A, x.c⟩ := List.getElem?_set_self (List.getElem?_eq_some_iff.1 hi).1
  have h6 := El.Own.store h5 i 6 (⟨⟨y.d.st, y.d.gn, ⟨y.d.x.sg, y.d.x.hb, y.d.x.sb, y.d.x.hn, x.d.x.sn, x.d.x.gr, x.d.x.bu⟩, x.d.segs⟩, x.A, x.c⟩ : HM) ⟨⟨y.d.st, y.d.gn, ⟨y.d.x.sg, y.d.x.hb, y.d.x.sb, y.d.x.hn, y.d.x.sn, x.d.x.gr, x.d.x.bu⟩, x.d.segs⟩, x.A, x.c⟩ (.int .i64 y.d.x.sn) h5i (by decide) rfl
  rw [List.set_set] at h6
  have h6i : (l.set i (⟨⟨y.d.st, y.d.gn, ⟨y.d.x.sg, y.d.x.hb, y.d.x.sb, y.d.x.hn, y.d.x.sn, x.d.x.gr, x.d.x.bu⟩, x.d.segs⟩, x.A, x.c⟩ : HM))[i]? = some ⟨⟨y.d.st, y.d.gn, ⟨y.d.x.sg, y.d.x.hb, y.d.x.sb, y.d.x.hn, y.d.x.sn, x.d.x.gr, x.d.x.bu⟩, x.d.segs⟩, x.A, x.c⟩ := List.getElem?_set_self (List.getElem?_eq_some_iff.1 hi).1
  have h7 := El.Own.store h6 i 7 (⟨⟨y.d.st, y.d.gn, ⟨y.d.x.sg, y.d.x.hb, y.d.x.sb, y.d.x.hn, y.d.x.sn, x.d.x.gr, x.d.x.bu⟩, x.d.segs⟩, x.A, x.c⟩ : HM) ⟨⟨y.d.st, y.d.gn, ⟨y.d.x.sg, y.d.x.hb, y.d.x.sb, y.d.x.hn, y.d.x.sn, y.d.x.gr, x.d.x.bu⟩, x.d.segs⟩, x.A, x.c⟩ (.int .i64 y.d.x.gr) h6i (by decide) rfl
  rw [List.set_set] at h7
  have h7i : (l.set i (⟨⟨y.d.st, y.d.gn, ⟨y.d.x.sg, y.d.x.hb, y.d.x.sb, y.d.x.hn, y.d.x.sn, y.d.x.gr, x.d.x.bu⟩, x.d.segs⟩, x.A, x.c⟩ : HM))[i]? = some ⟨⟨y.d.st, y.d.gn, ⟨y.d.x.sg, y.d.x.hb, y.d.x.sb, y.d.x.hn, y.d.x.sn, y.d.x.gr, x.d.x.bu⟩, x.d.segs⟩, x.A, x.c⟩ := List.getElem?_set_self (List.getElem?_eq_some_iff.1 hi).1
  have h8 := El.Own.store h7 i 8 (⟨⟨y.d.st, y.d.gn, ⟨y.d.x.sg, y.d.x.hb, y.d.x.sb, y.d.x.hn, y.d.x.sn, y.d.x.gr, x.d.x.bu⟩, x.d.segs⟩, x.A, x.c⟩ : HM) ⟨⟨y.d.st, y.d.gn, ⟨y.d.x.sg, y.d.x.hb, y.d.x.sb, y.d.x.hn, y.d.x.sn, y.d.x.gr, y.d.x.bu⟩, x.d.segs⟩, x.A, x.c⟩ (.int .i64 y.d.x.bu) h7i (by decide) rfl
  rw [List.set_set] at h8
  have h8i : (l.set i (⟨⟨y.d.st, y.d.gn, ⟨y.d.x.sg, y.d.x.hb, y.d.x.sb, y.d.x.hn, y.d.x.sn, y.d.x.gr, y.d.x.bu⟩, x.d.segs⟩, x.A, x.c⟩ : HM))[i]? = some ⟨⟨y.d.st, y.d.gn, ⟨y.d.x.sg, y.d.x.hb, y.d.x.sb, y.d.x.hn, y.d.x.sn, y.d.x.gr, y.d.x.bu⟩, x.d.segs⟩, x.A, x.c⟩ := List.getElem?_set_self (List.getElem?_eq_some_iff.1 hi).1
  have h9 := El.Own.store h8 i 9 (⟨⟨y.d.st, y.d.gn, ⟨y.d.x.sg, y.d.x.hb, y.d.x.sb, y.d.x.hn, y.d.x.sn, y.d.x.gr, y.d.x.bu⟩, x.d.segs⟩, x.A, x.c⟩ : HM) y (.slice y.A y.d.segs.length y.c) h8i (by decide) rfl
  rw [List.set_set] at h9
  rw [List.length_set] at h9
  exact h9
end Go.Proofs.Ytjoplgdcpihmaaa
