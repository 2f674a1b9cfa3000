/- Contracts of the library's functions, laid over this program out of the shelf. -/
import Derived.Shelf.Strings.OnBuilder
import Derived.Shelf.Slices.Turned
import Derived.Ground.Names2Prog
import Derived.Test.YtjoplgdcpihmaaaProg
namespace Go.Proofs.Ytjoplgdcpihmaaa
open Go.Shelf
def Sh_lays156_ren : Go.Shelf.Ren := ⟨fun | 156 => 139 | 165 => 146 | 166 => 147 | 169 => 148 | 240 => 152 | 241 => 153 | 276 => 155 | 277 => 156 | n => n, fun | 31 => 67 | 9 => 9 | 3 => 3 | 4 => 4 | 0 => 0 | 20 => 20 | 72 => 184 | 76 => 187 | 70 => 182 | 37 => 38 | 75 => 186 | 127 => 190 | 164 => 192 | 5 => 5 | 80 => 101 | n => n, fun | n => n⟩
theorem Sh_lays156 : Go.Proofs.Lays.n156 Try.prog Sh_lays156_ren := {
  mixed := by kernel_rfl
  f156 := Try.func139.trans (congrArg some (by kernel_rfl))
  f165 := Try.func146.trans (congrArg some (by kernel_rfl))
  f166 := Try.func147.trans (congrArg some (by kernel_rfl))
  f169 := Try.func148.trans (congrArg some (by kernel_rfl))
  f240 := Try.func152.trans (congrArg some (by kernel_rfl))
  f241 := Try.func153.trans (congrArg some (by kernel_rfl))
  f276 := Try.func155.trans (congrArg some (by kernel_rfl))
  f277 := Try.func156.trans (congrArg some (by kernel_rfl))
  t0 := Try.underlying0
  a0 := Try.isAgg0
  z0 := Try.sizeOf0
  v0 := Try.zeroValue0
  t3 := Try.underlying3
  a3 := Try.isAgg3
  z3 := Try.sizeOf3
  v3 := Try.zeroValue3
  t4 := Try.underlying4
  a4 := Try.isAgg4
  z4 := Try.sizeOf4
  v4 := Try.zeroValue4
  t9 := Try.underlying9
  a9 := Try.isAgg9
  z9 := Try.sizeOf9
  v9 := Try.zeroValue9
  t20 := Try.underlying20
  a20 := Try.isAgg20
  z20 := Try.sizeOf20
  v20 := Try.zeroValue20
  t31 := Try.underlying67
  a31 := Try.isAgg67
  z31 := Try.sizeOf67
  v31 := Try.zeroValue67
  t37 := Try.underlying38
  a37 := Try.isAgg38
  z37 := Try.sizeOf38
  v37 := Try.zeroValue38
  t70 := Try.underlying182
  a70 := Try.isAgg182
  z70 := Try.sizeOf182
  v70 := Try.zeroValue182
  t72 := Try.underlying184
  a72 := Try.isAgg184
  z72 := Try.sizeOf184
  v72 := Try.zeroValue184
  t75 := Try.underlying186
  a75 := Try.isAgg186
  z75 := Try.sizeOf186
  v75 := Try.zeroValue186
  t76 := Try.underlying187
  a76 := Try.isAgg187
  z76 := Try.sizeOf187
  v76 := Try.zeroValue187
  t127 := Try.underlying190
  a127 := Try.isAgg190
  z127 := Try.sizeOf190
  v127 := Try.zeroValue190
  t164 := Try.underlying192
  a164 := Try.isAgg192
  z164 := Try.sizeOf192
  v164 := Try.zeroValue192 }
theorem Sh_Builder_Extra_156 : Builder.Extra Try.prog Sh_lays156_ren := {
  sizeBuilder := by kernel_rfl
  liesBuilder := by kernel_rfl
  t5 := Try.underlying5
  a5 := Try.isAgg5
  z5 := Try.sizeOf5
  v5 := Try.zeroValue5
  infoByte := by kernel_rfl
  cellsByte := by kernel_rfl
  sizeByte := by kernel_rfl
  neB5 := by decide }
open Go.RowKit in
theorem Sh_strings_Join_none (a : Option Addr) (c : Nat) (sep : ByteArray) (w : World) :
    Calls Try.prog 139 #[.slice a 0 c, .string sep] w fun e w' => e = .returned (.string ⟨#[]⟩) ∧ w' = w := Any.strings_Join_none Sh_lays156 Sh_Builder_Extra_156 a c sep w
open Go.RowKit in
theorem Sh_strings_Join (bk o c : Nat) (xs : List ByteArray) (sep : ByteArray) (w : World) (hcells : ∀ (j : Nat) x, xs[j]? = some x → w.cell? ⟨bk, o + j, none⟩ = some (.string x)) (hbk : bk < w.heap.size) (hN : xs.length ≤ 140737488355328) (hcap : xs.length ≤ c) (hlen : (Lib.join (xs.map (·.data.toList)) sep.data.toList).length ≤ 140737488355328) :
    Calls Try.prog 139 #[.slice (some ⟨bk, o, none⟩) xs.length c, .string sep] w fun e w' => e = .returned (.string ⟨(Lib.join (xs.map (·.data.toList)) sep.data.toList).toArray⟩) ∧ Below w.heap.size w w' := Any.strings_Join Sh_lays156 Sh_Builder_Extra_156 bk o c xs sep w hcells hbk hN hcap hlen
def Sh_lays108_ren : Go.Shelf.Ren := ⟨fun | 108 => 154 | n => n, fun | 28 => 58 | 3 => 3 | 0 => 0 | 4 => 4 | n => n, fun | n => n⟩
theorem Sh_lays108 : Go.Proofs.Lays.n108 Try.prog Sh_lays108_ren := {
  mixed := by kernel_rfl
  f108 := Try.func154.trans (congrArg some (by kernel_rfl))
  t0 := Try.underlying0
  a0 := Try.isAgg0
  z0 := Try.sizeOf0
  v0 := Try.zeroValue0
  t3 := Try.underlying3
  a3 := Try.isAgg3
  z3 := Try.sizeOf3
  v3 := Try.zeroValue3
  t4 := Try.underlying4
  a4 := Try.isAgg4
  z4 := Try.sizeOf4
  v4 := Try.zeroValue4
  t28 := Try.underlying58
  a28 := Try.isAgg58
  z28 := Try.sizeOf58
  v28 := Try.zeroValue58 }
open Go.Lib in
theorem Sh_slices_Index_int (b off n c : Nat) (zs : List Int) (x : Int) (w : World) (hz : n ≤ zs.length) (hbig : n ≤ 9223372036854775807) (hc : ∀ j, j < zs.length → w.cell? ⟨b, off + j, none⟩ = some (.int .i64 (zs.getD j 0))) :
    Calls Try.prog 154 #[.slice (some ⟨b, off, none⟩) n c, .int .i64 x] w fun e w' => e = .returned (.int .i64 (Lib.idxOf (zs.take n) x)) ∧ w' = w := Any.slices_Index_int Sh_lays108 b off n c zs x w hz hbig hc
open Go.Lib in
theorem Sh_slices_Index_int_empty (a : Option Addr) (c : Nat) (x : Int) (w : World) :
    Calls Try.prog 154 #[.slice a 0 c, .int .i64 x] w fun e w' => e = .returned (.int .i64 (Lib.idxOf [] x)) ∧ w' = w := Any.slices_Index_int_empty Sh_lays108 a c x w
def Sh_lays107_ren : Go.Shelf.Ren := ⟨fun | 107 => 150 | 108 => 154 | n => n, fun | 28 => 58 | 3 => 3 | 4 => 4 | 0 => 0 | n => n, fun | n => n⟩
theorem Sh_lays107 : Go.Proofs.Lays.n107 Try.prog Sh_lays107_ren := {
  mixed := by kernel_rfl
  f107 := Try.func150.trans (congrArg some (by kernel_rfl))
  f108 := Try.func154.trans (congrArg some (by kernel_rfl))
  t0 := Try.underlying0
  a0 := Try.isAgg0
  z0 := Try.sizeOf0
  v0 := Try.zeroValue0
  t3 := Try.underlying3
  a3 := Try.isAgg3
  z3 := Try.sizeOf3
  v3 := Try.zeroValue3
  t4 := Try.underlying4
  a4 := Try.isAgg4
  z4 := Try.sizeOf4
  v4 := Try.zeroValue4
  t28 := Try.underlying58
  a28 := Try.isAgg58
  z28 := Try.sizeOf58
  v28 := Try.zeroValue58 }
open Go.Lib in
theorem Sh_slices_Contains_int (b off n c : Nat) (zs : List Int) (x : Int) (w : World) (hz : n ≤ zs.length) (hbig : n ≤ 9223372036854775807) (hc : ∀ j, j < zs.length → w.cell? ⟨b, off + j, none⟩ = some (.int .i64 (zs.getD j 0))) :
    Calls Try.prog 150 #[.slice (some ⟨b, off, none⟩) n c, .int .i64 x] w fun e w' => e = .returned (.bool ((zs.take n).contains x)) ∧ w' = w := Any.slices_Contains_int Sh_lays107 b off n c zs x w hz hbig hc
open Go.Lib in
theorem Sh_slices_Contains_int_empty (a : Option Addr) (c : Nat) (x : Int) (w : World) :
    Calls Try.prog 150 #[.slice a 0 c, .int .i64 x] w fun e w' => e = .returned (.bool false) ∧ w' = w := Any.slices_Contains_int_empty Sh_lays107 a c x w
end Go.Proofs.Ytjoplgdcpihmaaa
