/-
  No cell of these rows narrows 'for every input' (looked for: loops, veiled, ifaces, maps, wideKeys, modest, calm, conditions, laid).
  DERIVED. THE GIVEN ROWS OF THIS SEAT. 22 by the template 'for every input the law returns true; each argument reads behind the call as it read before'; 0 by the template 'total and deterministic' (their statements: YtjoplgdcpihmaaaTotals.lean).
  GIVEN WITH THE SEED: the statements are not yours to turn. If you find one false, say at which input.
  Laid BY PROGRAM, IN A SANDBOX (cutbox-rows.mjs): the forced cells as the released guide's own fill.sh prints them over the translation 5f4266bdcedcfc33… (all of the seat's roots in one cut). By AI agents, Wed Nov 11 2026. No macro, syntax, notation, axiom, sorry.
-/
import Derived.Test.YtjoplgdcpihmaaaChecked
import GoSem.Claim
import GoSem.ClaimJoined
import GoSem.ClaimMapViews
import Derived.JoinedTies
import Derived.KernelRfl
namespace Go.Proofs.Ytjoplgdcpihmaaa
/- THE CELL 'sum', in the pinned program and in every row, IS THE sha256 OF THE DUMP (.gsa) THAT YtjoplgdcpihmaaaProg.lean LOADS. Nothing in Lean hashes anything: it is a label: what it is worth is what the hold of that sum in a sandbox is worth. -/
noncomputable def Try.pinned : Pinned := { name := "ytjoplgdcpihmaaa", sum := "5f4266bdcedcfc33435211091abe40a631be51ee1a3d264bf7c470c8a8618ff2", checked := Try.checked }
namespace Rows
def none {H : Type} : Left H := { results := [], args := [] }

/-- 'beguinagelaw08.HeadAll': WHATEVER THE INPUT: true; the input reads as it did. -/
def headAllSpec : ChangeSpec := { name := "headAll", fn := fun _ => fun
  | [d1, d2, d3] => { results := [.lit (.bool true)], args := [d1, d2, d3] }
  | _ => none }
def headAllRow : OpenClaim := { program := "ytjoplgdcpihmaaa", sum := "5f4266bdcedcfc33435211091abe40a631be51ee1a3d264bf7c470c8a8618ff2", func := "beguinage/beguinagelaw08.HeadAll", spec := "headAll", unfollowed := true, recurses := true, apart := false }
def HeadAllSaid : Prop := headAllRow.holds Try.pinned (OpenSpec.ofChange headAllSpec)

/-- ITS FALSE NEIGHBOUR: 'it returns false'. Refute it at one input. -/
def headAllWrong : ChangeSpec := { name := "headAll", fn := fun _ => fun
  | [d1, d2, d3] => { results := [.lit (.bool false)], args := [d1, d2, d3] }
  | _ => none }
def HeadAllWrongFalsely : Prop := headAllRow.holds Try.pinned (OpenSpec.ofChange headAllWrong)

/-- 'beguinagelaw08.HeadBack': WHATEVER THE INPUT: true; the input reads as it did. -/
def headBackSpec : ChangeSpec := { name := "headBack", fn := fun _ => fun
  | [d1, d2, d3, d4] => { results := [.lit (.bool true)], args := [d1, d2, d3, d4] }
  | _ => none }
def headBackRow : OpenClaim := { program := "ytjoplgdcpihmaaa", sum := "5f4266bdcedcfc33435211091abe40a631be51ee1a3d264bf7c470c8a8618ff2", func := "beguinage/beguinagelaw08.HeadBack", spec := "headBack", unfollowed := true, recurses := true, apart := false }
def HeadBackSaid : Prop := headBackRow.holds Try.pinned (OpenSpec.ofChange headBackSpec)

/-- ITS FALSE NEIGHBOUR: 'it returns false'. Refute it at one input. -/
def headBackWrong : ChangeSpec := { name := "headBack", fn := fun _ => fun
  | [d1, d2, d3, d4] => { results := [.lit (.bool false)], args := [d1, d2, d3, d4] }
  | _ => none }
def HeadBackWrongFalsely : Prop := headBackRow.holds Try.pinned (OpenSpec.ofChange headBackWrong)

/-- 'beguinagelaw08.HeadEdges': WHATEVER THE INPUT: true; the input reads as it did. -/
def headEdgesSpec : ChangeSpec := { name := "headEdges", fn := fun _ => fun
  | [d1, d2] => { results := [.lit (.bool true)], args := [d1, d2] }
  | _ => none }
def headEdgesRow : OpenClaim := { program := "ytjoplgdcpihmaaa", sum := "5f4266bdcedcfc33435211091abe40a631be51ee1a3d264bf7c470c8a8618ff2", func := "beguinage/beguinagelaw08.HeadEdges", spec := "headEdges", unfollowed := true, recurses := true, apart := false }
def HeadEdgesSaid : Prop := headEdgesRow.holds Try.pinned (OpenSpec.ofChange headEdgesSpec)

/-- ITS FALSE NEIGHBOUR: 'it returns false'. Refute it at one input. -/
def headEdgesWrong : ChangeSpec := { name := "headEdges", fn := fun _ => fun
  | [d1, d2] => { results := [.lit (.bool false)], args := [d1, d2] }
  | _ => none }
def HeadEdgesWrongFalsely : Prop := headEdgesRow.holds Try.pinned (OpenSpec.ofChange headEdgesWrong)

/-- 'beguinagelaw08.HeadApart': WHATEVER THE INPUT: true; the input reads as it did. -/
def headApartSpec : ChangeSpec := { name := "headApart", fn := fun _ => fun
  | [d1, d2, d3] => { results := [.lit (.bool true)], args := [d1, d2, d3] }
  | _ => none }
def headApartRow : OpenClaim := { program := "ytjoplgdcpihmaaa", sum := "5f4266bdcedcfc33435211091abe40a631be51ee1a3d264bf7c470c8a8618ff2", func := "beguinage/beguinagelaw08.HeadApart", spec := "headApart", unfollowed := true, recurses := true, apart := false }
def HeadApartSaid : Prop := headApartRow.holds Try.pinned (OpenSpec.ofChange headApartSpec)

/-- ITS FALSE NEIGHBOUR: 'it returns false'. Refute it at one input. -/
def headApartWrong : ChangeSpec := { name := "headApart", fn := fun _ => fun
  | [d1, d2, d3] => { results := [.lit (.bool false)], args := [d1, d2, d3] }
  | _ => none }
def HeadApartWrongFalsely : Prop := headApartRow.holds Try.pinned (OpenSpec.ofChange headApartWrong)

/-- 'beguinagelaw06.TableAll': WHATEVER THE INPUT: true; the input reads as it did. -/
def tableAllSpec : ChangeSpec := { name := "tableAll", fn := fun _ => fun
  | [d1, d2, d3, d4, d5] => { results := [.lit (.bool true)], args := [d1, d2, d3, d4, d5] }
  | _ => none }
def tableAllRow : OpenClaim := { program := "ytjoplgdcpihmaaa", sum := "5f4266bdcedcfc33435211091abe40a631be51ee1a3d264bf7c470c8a8618ff2", func := "beguinage/beguinagelaw06.TableAll", spec := "tableAll", unfollowed := true, recurses := true, apart := false }
def TableAllSaid : Prop := tableAllRow.holds Try.pinned (OpenSpec.ofChange tableAllSpec)

/-- ITS FALSE NEIGHBOUR: 'it returns false'. Refute it at one input. -/
def tableAllWrong : ChangeSpec := { name := "tableAll", fn := fun _ => fun
  | [d1, d2, d3, d4, d5] => { results := [.lit (.bool false)], args := [d1, d2, d3, d4, d5] }
  | _ => none }
def TableAllWrongFalsely : Prop := tableAllRow.holds Try.pinned (OpenSpec.ofChange tableAllWrong)

/-- 'beguinagelaw06.TableNumbers': WHATEVER THE INPUT: true; the input reads as it did. -/
def tableNumbersSpec : ChangeSpec := { name := "tableNumbers", fn := fun _ => fun
  | [d1, d2, d3, d4] => { results := [.lit (.bool true)], args := [d1, d2, d3, d4] }
  | _ => none }
def tableNumbersRow : OpenClaim := { program := "ytjoplgdcpihmaaa", sum := "5f4266bdcedcfc33435211091abe40a631be51ee1a3d264bf7c470c8a8618ff2", func := "beguinage/beguinagelaw06.TableNumbers", spec := "tableNumbers", unfollowed := true, recurses := true, apart := false }
def TableNumbersSaid : Prop := tableNumbersRow.holds Try.pinned (OpenSpec.ofChange tableNumbersSpec)

/-- ITS FALSE NEIGHBOUR: 'it returns false'. Refute it at one input. -/
def tableNumbersWrong : ChangeSpec := { name := "tableNumbers", fn := fun _ => fun
  | [d1, d2, d3, d4] => { results := [.lit (.bool false)], args := [d1, d2, d3, d4] }
  | _ => none }
def TableNumbersWrongFalsely : Prop := tableNumbersRow.holds Try.pinned (OpenSpec.ofChange tableNumbersWrong)

/-- 'beguinagelaw06.TableLimits': WHATEVER THE INPUT: true; the input reads as it did. -/
def tableLimitsSpec : ChangeSpec := { name := "tableLimits", fn := fun _ => fun
  | [d1, d2] => { results := [.lit (.bool true)], args := [d1, d2] }
  | _ => none }
def tableLimitsRow : OpenClaim := { program := "ytjoplgdcpihmaaa", sum := "5f4266bdcedcfc33435211091abe40a631be51ee1a3d264bf7c470c8a8618ff2", func := "beguinage/beguinagelaw06.TableLimits", spec := "tableLimits", unfollowed := true, recurses := true, apart := false }
def TableLimitsSaid : Prop := tableLimitsRow.holds Try.pinned (OpenSpec.ofChange tableLimitsSpec)

/-- ITS FALSE NEIGHBOUR: 'it returns false'. Refute it at one input. -/
def tableLimitsWrong : ChangeSpec := { name := "tableLimits", fn := fun _ => fun
  | [d1, d2] => { results := [.lit (.bool false)], args := [d1, d2] }
  | _ => none }
def TableLimitsWrongFalsely : Prop := tableLimitsRow.holds Try.pinned (OpenSpec.ofChange tableLimitsWrong)

/-- 'beguinagelaw06.TableEmpty': WHATEVER THE INPUT: true; the input reads as it did. -/
def tableEmptySpec : ChangeSpec := { name := "tableEmpty", fn := fun _ => fun
  | [d1, d2, d3] => { results := [.lit (.bool true)], args := [d1, d2, d3] }
  | _ => none }
def tableEmptyRow : OpenClaim := { program := "ytjoplgdcpihmaaa", sum := "5f4266bdcedcfc33435211091abe40a631be51ee1a3d264bf7c470c8a8618ff2", func := "beguinage/beguinagelaw06.TableEmpty", spec := "tableEmpty", unfollowed := true, recurses := true, apart := false }
def TableEmptySaid : Prop := tableEmptyRow.holds Try.pinned (OpenSpec.ofChange tableEmptySpec)

/-- ITS FALSE NEIGHBOUR: 'it returns false'. Refute it at one input. -/
def tableEmptyWrong : ChangeSpec := { name := "tableEmpty", fn := fun _ => fun
  | [d1, d2, d3] => { results := [.lit (.bool false)], args := [d1, d2, d3] }
  | _ => none }
def TableEmptyWrongFalsely : Prop := tableEmptyRow.holds Try.pinned (OpenSpec.ofChange tableEmptyWrong)

/-- 'beguinagelaw06.TableApart': WHATEVER THE INPUT: true; the input reads as it did. -/
def tableApartSpec : ChangeSpec := { name := "tableApart", fn := fun _ => fun
  | [d1, d2, d3, d4] => { results := [.lit (.bool true)], args := [d1, d2, d3, d4] }
  | _ => none }
def tableApartRow : OpenClaim := { program := "ytjoplgdcpihmaaa", sum := "5f4266bdcedcfc33435211091abe40a631be51ee1a3d264bf7c470c8a8618ff2", func := "beguinage/beguinagelaw06.TableApart", spec := "tableApart", unfollowed := true, recurses := true, apart := false }
def TableApartSaid : Prop := tableApartRow.holds Try.pinned (OpenSpec.ofChange tableApartSpec)

/-- ITS FALSE NEIGHBOUR: 'it returns false'. Refute it at one input. -/
def tableApartWrong : ChangeSpec := { name := "tableApart", fn := fun _ => fun
  | [d1, d2, d3, d4] => { results := [.lit (.bool false)], args := [d1, d2, d3, d4] }
  | _ => none }
def TableApartWrongFalsely : Prop := tableApartRow.holds Try.pinned (OpenSpec.ofChange tableApartWrong)

/-- 'beguinagelaw13.ChunkAll': WHATEVER THE INPUT: true; the input reads as it did. -/
def chunkAllSpec : ChangeSpec := { name := "chunkAll", fn := fun _ => fun
  | [d1, d2, d3] => { results := [.lit (.bool true)], args := [d1, d2, d3] }
  | _ => none }
def chunkAllRow : OpenClaim := { program := "ytjoplgdcpihmaaa", sum := "5f4266bdcedcfc33435211091abe40a631be51ee1a3d264bf7c470c8a8618ff2", func := "beguinage/beguinagelaw13.ChunkAll", spec := "chunkAll", inPlace := ["internal/abi.NoEscape", "internal/bytealg.MakeNoZero"], unfollowed := true, recurses := true, apart := false }
def ChunkAllSaid : Prop := chunkAllRow.holds Try.pinned (OpenSpec.ofChange chunkAllSpec)

/-- ITS FALSE NEIGHBOUR: 'it returns false'. Refute it at one input. -/
def chunkAllWrong : ChangeSpec := { name := "chunkAll", fn := fun _ => fun
  | [d1, d2, d3] => { results := [.lit (.bool false)], args := [d1, d2, d3] }
  | _ => none }
def ChunkAllWrongFalsely : Prop := chunkAllRow.holds Try.pinned (OpenSpec.ofChange chunkAllWrong)

/-- 'beguinagelaw13.ChunkBack': WHATEVER THE INPUT: true; the input reads as it did. -/
def chunkBackSpec : ChangeSpec := { name := "chunkBack", fn := fun _ => fun
  | [d1, d2, d3, d4] => { results := [.lit (.bool true)], args := [d1, d2, d3, d4] }
  | _ => none }
def chunkBackRow : OpenClaim := { program := "ytjoplgdcpihmaaa", sum := "5f4266bdcedcfc33435211091abe40a631be51ee1a3d264bf7c470c8a8618ff2", func := "beguinage/beguinagelaw13.ChunkBack", spec := "chunkBack", inPlace := ["internal/abi.NoEscape", "internal/bytealg.MakeNoZero"], unfollowed := true, recurses := true, apart := false }
def ChunkBackSaid : Prop := chunkBackRow.holds Try.pinned (OpenSpec.ofChange chunkBackSpec)

/-- ITS FALSE NEIGHBOUR: 'it returns false'. Refute it at one input. -/
def chunkBackWrong : ChangeSpec := { name := "chunkBack", fn := fun _ => fun
  | [d1, d2, d3, d4] => { results := [.lit (.bool false)], args := [d1, d2, d3, d4] }
  | _ => none }
def ChunkBackWrongFalsely : Prop := chunkBackRow.holds Try.pinned (OpenSpec.ofChange chunkBackWrong)

/-- 'beguinagelaw13.ChunkSizes': WHATEVER THE INPUT: true; the input reads as it did. -/
def chunkSizesSpec : ChangeSpec := { name := "chunkSizes", fn := fun _ => fun
  | [d1, d2, d3] => { results := [.lit (.bool true)], args := [d1, d2, d3] }
  | _ => none }
def chunkSizesRow : OpenClaim := { program := "ytjoplgdcpihmaaa", sum := "5f4266bdcedcfc33435211091abe40a631be51ee1a3d264bf7c470c8a8618ff2", func := "beguinage/beguinagelaw13.ChunkSizes", spec := "chunkSizes", inPlace := ["internal/abi.NoEscape", "internal/bytealg.MakeNoZero"], unfollowed := true, recurses := true, apart := false }
def ChunkSizesSaid : Prop := chunkSizesRow.holds Try.pinned (OpenSpec.ofChange chunkSizesSpec)

/-- ITS FALSE NEIGHBOUR: 'it returns false'. Refute it at one input. -/
def chunkSizesWrong : ChangeSpec := { name := "chunkSizes", fn := fun _ => fun
  | [d1, d2, d3] => { results := [.lit (.bool false)], args := [d1, d2, d3] }
  | _ => none }
def ChunkSizesWrongFalsely : Prop := chunkSizesRow.holds Try.pinned (OpenSpec.ofChange chunkSizesWrong)

/-- 'beguinagelaw13.ChunkApart': WHATEVER THE INPUT: true; the input reads as it did. -/
def chunkApartSpec : ChangeSpec := { name := "chunkApart", fn := fun _ => fun
  | [d1, d2, d3] => { results := [.lit (.bool true)], args := [d1, d2, d3] }
  | _ => none }
def chunkApartRow : OpenClaim := { program := "ytjoplgdcpihmaaa", sum := "5f4266bdcedcfc33435211091abe40a631be51ee1a3d264bf7c470c8a8618ff2", func := "beguinage/beguinagelaw13.ChunkApart", spec := "chunkApart", inPlace := ["internal/abi.NoEscape", "internal/bytealg.MakeNoZero"], unfollowed := true, recurses := true, apart := false }
def ChunkApartSaid : Prop := chunkApartRow.holds Try.pinned (OpenSpec.ofChange chunkApartSpec)

/-- ITS FALSE NEIGHBOUR: 'it returns false'. Refute it at one input. -/
def chunkApartWrong : ChangeSpec := { name := "chunkApart", fn := fun _ => fun
  | [d1, d2, d3] => { results := [.lit (.bool false)], args := [d1, d2, d3] }
  | _ => none }
def ChunkApartWrongFalsely : Prop := chunkApartRow.holds Try.pinned (OpenSpec.ofChange chunkApartWrong)

/-- 'beguinagelaw14.LogRefuses': WHATEVER THE INPUT: true; the input reads as it did. -/
def logRefusesSpec : ChangeSpec := { name := "logRefuses", fn := fun _ => fun
  | [d1, d2] => { results := [.lit (.bool true)], args := [d1, d2] }
  | _ => none }
def logRefusesRow : OpenClaim := { program := "ytjoplgdcpihmaaa", sum := "5f4266bdcedcfc33435211091abe40a631be51ee1a3d264bf7c470c8a8618ff2", func := "beguinage/beguinagelaw14.LogRefuses", spec := "logRefuses", inPlace := ["internal/abi.NoEscape", "internal/bytealg.MakeNoZero"], unfollowed := true, recurses := true, apart := false }
def LogRefusesSaid : Prop := logRefusesRow.holds Try.pinned (OpenSpec.ofChange logRefusesSpec)

/-- ITS FALSE NEIGHBOUR: 'it returns false'. Refute it at one input. -/
def logRefusesWrong : ChangeSpec := { name := "logRefuses", fn := fun _ => fun
  | [d1, d2] => { results := [.lit (.bool false)], args := [d1, d2] }
  | _ => none }
def LogRefusesWrongFalsely : Prop := logRefusesRow.holds Try.pinned (OpenSpec.ofChange logRefusesWrong)

/-- 'beguinagelaw14.LogFills': WHATEVER THE INPUT: true; the input reads as it did. -/
def logFillsSpec : ChangeSpec := { name := "logFills", fn := fun _ => fun
  | [d1, d2] => { results := [.lit (.bool true)], args := [d1, d2] }
  | _ => none }
def logFillsRow : OpenClaim := { program := "ytjoplgdcpihmaaa", sum := "5f4266bdcedcfc33435211091abe40a631be51ee1a3d264bf7c470c8a8618ff2", func := "beguinage/beguinagelaw14.LogFills", spec := "logFills", inPlace := ["internal/abi.NoEscape", "internal/bytealg.MakeNoZero"], unfollowed := true, recurses := true, apart := false }
def LogFillsSaid : Prop := logFillsRow.holds Try.pinned (OpenSpec.ofChange logFillsSpec)

/-- ITS FALSE NEIGHBOUR: 'it returns false'. Refute it at one input. -/
def logFillsWrong : ChangeSpec := { name := "logFills", fn := fun _ => fun
  | [d1, d2] => { results := [.lit (.bool false)], args := [d1, d2] }
  | _ => none }
def LogFillsWrongFalsely : Prop := logFillsRow.holds Try.pinned (OpenSpec.ofChange logFillsWrong)

/-- 'beguinagelaw14.LogAppends': WHATEVER THE INPUT: true; the input reads as it did. -/
def logAppendsSpec : ChangeSpec := { name := "logAppends", fn := fun _ => fun
  | [d1, d2, d3] => { results := [.lit (.bool true)], args := [d1, d2, d3] }
  | _ => none }
def logAppendsRow : OpenClaim := { program := "ytjoplgdcpihmaaa", sum := "5f4266bdcedcfc33435211091abe40a631be51ee1a3d264bf7c470c8a8618ff2", func := "beguinage/beguinagelaw14.LogAppends", spec := "logAppends", inPlace := ["internal/abi.NoEscape", "internal/bytealg.MakeNoZero"], unfollowed := true, recurses := true, apart := false }
def LogAppendsSaid : Prop := logAppendsRow.holds Try.pinned (OpenSpec.ofChange logAppendsSpec)

/-- ITS FALSE NEIGHBOUR: 'it returns false'. Refute it at one input. -/
def logAppendsWrong : ChangeSpec := { name := "logAppends", fn := fun _ => fun
  | [d1, d2, d3] => { results := [.lit (.bool false)], args := [d1, d2, d3] }
  | _ => none }
def LogAppendsWrongFalsely : Prop := logAppendsRow.holds Try.pinned (OpenSpec.ofChange logAppendsWrong)

/-- 'beguinagelaw14.LogPower': WHATEVER THE INPUT: true; the input reads as it did. -/
def logPowerSpec : ChangeSpec := { name := "logPower", fn := fun _ => fun
  | [d1, d2] => { results := [.lit (.bool true)], args := [d1, d2] }
  | _ => none }
def logPowerRow : OpenClaim := { program := "ytjoplgdcpihmaaa", sum := "5f4266bdcedcfc33435211091abe40a631be51ee1a3d264bf7c470c8a8618ff2", func := "beguinage/beguinagelaw14.LogPower", spec := "logPower", inPlace := ["internal/abi.NoEscape", "internal/bytealg.MakeNoZero"], unfollowed := true, recurses := true, apart := false }
def LogPowerSaid : Prop := logPowerRow.holds Try.pinned (OpenSpec.ofChange logPowerSpec)

/-- ITS FALSE NEIGHBOUR: 'it returns false'. Refute it at one input. -/
def logPowerWrong : ChangeSpec := { name := "logPower", fn := fun _ => fun
  | [d1, d2] => { results := [.lit (.bool false)], args := [d1, d2] }
  | _ => none }
def LogPowerWrongFalsely : Prop := logPowerRow.holds Try.pinned (OpenSpec.ofChange logPowerWrong)

/-- 'beguinagelaw15.RollOthers': WHATEVER THE INPUT: true; the input reads as it did. -/
def rollOthersSpec : ChangeSpec := { name := "rollOthers", fn := fun _ => fun
  | [d1, d2] => { results := [.lit (.bool true)], args := [d1, d2] }
  | _ => none }
def rollOthersRow : OpenClaim := { program := "ytjoplgdcpihmaaa", sum := "5f4266bdcedcfc33435211091abe40a631be51ee1a3d264bf7c470c8a8618ff2", func := "beguinage/beguinagelaw15.RollOthers", spec := "rollOthers", inPlace := ["internal/abi.NoEscape", "internal/bytealg.MakeNoZero"], unfollowed := true, recurses := true, apart := false }
def RollOthersSaid : Prop := rollOthersRow.holds Try.pinned (OpenSpec.ofChange rollOthersSpec)

/-- ITS FALSE NEIGHBOUR: 'it returns false'. Refute it at one input. -/
def rollOthersWrong : ChangeSpec := { name := "rollOthers", fn := fun _ => fun
  | [d1, d2] => { results := [.lit (.bool false)], args := [d1, d2] }
  | _ => none }
def RollOthersWrongFalsely : Prop := rollOthersRow.holds Try.pinned (OpenSpec.ofChange rollOthersWrong)

/-- 'beguinagelaw15.RollAgain': WHATEVER THE INPUT: true; the input reads as it did. -/
def rollAgainSpec : ChangeSpec := { name := "rollAgain", fn := fun _ => fun
  | [d1, d2] => { results := [.lit (.bool true)], args := [d1, d2] }
  | _ => none }
def rollAgainRow : OpenClaim := { program := "ytjoplgdcpihmaaa", sum := "5f4266bdcedcfc33435211091abe40a631be51ee1a3d264bf7c470c8a8618ff2", func := "beguinage/beguinagelaw15.RollAgain", spec := "rollAgain", inPlace := ["internal/abi.NoEscape", "internal/bytealg.MakeNoZero"], unfollowed := true, recurses := true, apart := false }
def RollAgainSaid : Prop := rollAgainRow.holds Try.pinned (OpenSpec.ofChange rollAgainSpec)

/-- ITS FALSE NEIGHBOUR: 'it returns false'. Refute it at one input. -/
def rollAgainWrong : ChangeSpec := { name := "rollAgain", fn := fun _ => fun
  | [d1, d2] => { results := [.lit (.bool false)], args := [d1, d2] }
  | _ => none }
def RollAgainWrongFalsely : Prop := rollAgainRow.holds Try.pinned (OpenSpec.ofChange rollAgainWrong)

/-- 'beguinagelaw15.RollTorn': WHATEVER THE INPUT: true; the input reads as it did. -/
def rollTornSpec : ChangeSpec := { name := "rollTorn", fn := fun _ => fun
  | [d1, d2, d3] => { results := [.lit (.bool true)], args := [d1, d2, d3] }
  | _ => none }
def rollTornRow : OpenClaim := { program := "ytjoplgdcpihmaaa", sum := "5f4266bdcedcfc33435211091abe40a631be51ee1a3d264bf7c470c8a8618ff2", func := "beguinage/beguinagelaw15.RollTorn", spec := "rollTorn", inPlace := ["internal/abi.NoEscape", "internal/bytealg.MakeNoZero"], unfollowed := true, recurses := true, apart := false }
def RollTornSaid : Prop := rollTornRow.holds Try.pinned (OpenSpec.ofChange rollTornSpec)

/-- ITS FALSE NEIGHBOUR: 'it returns false'. Refute it at one input. -/
def rollTornWrong : ChangeSpec := { name := "rollTorn", fn := fun _ => fun
  | [d1, d2, d3] => { results := [.lit (.bool false)], args := [d1, d2, d3] }
  | _ => none }
def RollTornWrongFalsely : Prop := rollTornRow.holds Try.pinned (OpenSpec.ofChange rollTornWrong)

/-- 'beguinagelaw15.RollEmpty': WHATEVER THE INPUT: true; the input reads as it did. -/
def rollEmptySpec : ChangeSpec := { name := "rollEmpty", fn := fun _ => fun
  | [d1, d2, d3] => { results := [.lit (.bool true)], args := [d1, d2, d3] }
  | _ => none }
def rollEmptyRow : OpenClaim := { program := "ytjoplgdcpihmaaa", sum := "5f4266bdcedcfc33435211091abe40a631be51ee1a3d264bf7c470c8a8618ff2", func := "beguinage/beguinagelaw15.RollEmpty", spec := "rollEmpty", inPlace := ["internal/abi.NoEscape", "internal/bytealg.MakeNoZero"], unfollowed := true, recurses := true, apart := false }
def RollEmptySaid : Prop := rollEmptyRow.holds Try.pinned (OpenSpec.ofChange rollEmptySpec)

/-- ITS FALSE NEIGHBOUR: 'it returns false'. Refute it at one input. -/
def rollEmptyWrong : ChangeSpec := { name := "rollEmpty", fn := fun _ => fun
  | [d1, d2, d3] => { results := [.lit (.bool false)], args := [d1, d2, d3] }
  | _ => none }
def RollEmptyWrongFalsely : Prop := rollEmptyRow.holds Try.pinned (OpenSpec.ofChange rollEmptyWrong)

/-- 'beguinagelaw15.RollPrefix': WHATEVER THE INPUT: true; the input reads as it did. -/
def rollPrefixSpec : ChangeSpec := { name := "rollPrefix", fn := fun _ => fun
  | [d1, d2] => { results := [.lit (.bool true)], args := [d1, d2] }
  | _ => none }
def rollPrefixRow : OpenClaim := { program := "ytjoplgdcpihmaaa", sum := "5f4266bdcedcfc33435211091abe40a631be51ee1a3d264bf7c470c8a8618ff2", func := "beguinage/beguinagelaw15.RollPrefix", spec := "rollPrefix", inPlace := ["internal/abi.NoEscape", "internal/bytealg.MakeNoZero"], unfollowed := true, recurses := true, apart := false }
def RollPrefixSaid : Prop := rollPrefixRow.holds Try.pinned (OpenSpec.ofChange rollPrefixSpec)

/-- ITS FALSE NEIGHBOUR: 'it returns false'. Refute it at one input. -/
def rollPrefixWrong : ChangeSpec := { name := "rollPrefix", fn := fun _ => fun
  | [d1, d2] => { results := [.lit (.bool false)], args := [d1, d2] }
  | _ => none }
def RollPrefixWrongFalsely : Prop := rollPrefixRow.holds Try.pinned (OpenSpec.ofChange rollPrefixWrong)

/- THE SECOND FORM. 'bulk': how many values and letters a reading holds, each counted each time it is reached (what is shared counts as often as it is met; a slice's spare places count too). A statement '..UptoSaid' is the law's where the arguments, and the package variables that the reading takes, are together of bulk at most 1048576: NARROWER than '..Said'. Prove '..Said' where nothing that the law and all that it calls make is longer than what came in: it says more and counts as full. Else prove '..UptoSaid'. A law counts once. -/
mutual
def uptoBulk {H : Type} : DataW H → Nat
  | .lit (.string bytes) => bytes.length + 1
  | .lit _ => 1
  | .nil => 1
  | .ptr d => uptoBulk d + 1
  | .slice elems spare => uptoBulkAll elems + uptoBulkAll spare + 1
  | .agg parts => uptoBulkAll parts + 1
  | .iface _ d => uptoBulk d + 1
  | .map entries => uptoBulkEntries entries + 1
  | .held _ => 1
def uptoBulkAll {H : Type} : List (DataW H) → Nat
  | [] => 0
  | d :: r => uptoBulk d + uptoBulkAll r
def uptoBulkEntries {H : Type} : List (Lit × DataW H) → Nat
  | [] => 0
  | x :: r => uptoBulkEntry x + uptoBulkEntries r
def uptoBulkEntry {H : Type} : Lit × DataW H → Nat
  | (.string bytes, d) => bytes.length + uptoBulk d + 1
  | (_, d) => uptoBulk d + 1
 end
def uptoSmall : (H : Type) → List (DataW H) → Bool := fun _ ds => decide (uptoBulkAll ds ≤ 1048576)
def OpenSpec.upto (s : _root_.Go.ChangeSpec) : _root_.Go.OpenSpec := { _root_.Go.OpenSpec.ofChange s with cond := some uptoSmall }

/-- 'beguinagelaw08.HeadAll', WHERE WHAT IT READS IS OF BULK AT MOST 1048576: true; the input reads as it did. -/
def headAllUptoRow : OpenClaim := { program := "ytjoplgdcpihmaaa", sum := "5f4266bdcedcfc33435211091abe40a631be51ee1a3d264bf7c470c8a8618ff2", func := "beguinage/beguinagelaw08.HeadAll", spec := "headAll", unfollowed := true, recurses := true, apart := false, narrowed := true }
def HeadAllUptoSaid : Prop := headAllUptoRow.holds Try.pinned (OpenSpec.upto headAllSpec)

/-- 'beguinagelaw08.HeadBack', WHERE WHAT IT READS IS OF BULK AT MOST 1048576: true; the input reads as it did. -/
def headBackUptoRow : OpenClaim := { program := "ytjoplgdcpihmaaa", sum := "5f4266bdcedcfc33435211091abe40a631be51ee1a3d264bf7c470c8a8618ff2", func := "beguinage/beguinagelaw08.HeadBack", spec := "headBack", unfollowed := true, recurses := true, apart := false, narrowed := true }
def HeadBackUptoSaid : Prop := headBackUptoRow.holds Try.pinned (OpenSpec.upto headBackSpec)

/-- 'beguinagelaw08.HeadEdges', WHERE WHAT IT READS IS OF BULK AT MOST 1048576: true; the input reads as it did. -/
def headEdgesUptoRow : OpenClaim := { program := "ytjoplgdcpihmaaa", sum := "5f4266bdcedcfc33435211091abe40a631be51ee1a3d264bf7c470c8a8618ff2", func := "beguinage/beguinagelaw08.HeadEdges", spec := "headEdges", unfollowed := true, recurses := true, apart := false, narrowed := true }
def HeadEdgesUptoSaid : Prop := headEdgesUptoRow.holds Try.pinned (OpenSpec.upto headEdgesSpec)

/-- 'beguinagelaw08.HeadApart', WHERE WHAT IT READS IS OF BULK AT MOST 1048576: true; the input reads as it did. -/
def headApartUptoRow : OpenClaim := { program := "ytjoplgdcpihmaaa", sum := "5f4266bdcedcfc33435211091abe40a631be51ee1a3d264bf7c470c8a8618ff2", func := "beguinage/beguinagelaw08.HeadApart", spec := "headApart", unfollowed := true, recurses := true, apart := false, narrowed := true }
def HeadApartUptoSaid : Prop := headApartUptoRow.holds Try.pinned (OpenSpec.upto headApartSpec)

/-- 'beguinagelaw06.TableAll', WHERE WHAT IT READS IS OF BULK AT MOST 1048576: true; the input reads as it did. -/
def tableAllUptoRow : OpenClaim := { program := "ytjoplgdcpihmaaa", sum := "5f4266bdcedcfc33435211091abe40a631be51ee1a3d264bf7c470c8a8618ff2", func := "beguinage/beguinagelaw06.TableAll", spec := "tableAll", unfollowed := true, recurses := true, apart := false, narrowed := true }
def TableAllUptoSaid : Prop := tableAllUptoRow.holds Try.pinned (OpenSpec.upto tableAllSpec)

/-- 'beguinagelaw06.TableNumbers', WHERE WHAT IT READS IS OF BULK AT MOST 1048576: true; the input reads as it did. -/
def tableNumbersUptoRow : OpenClaim := { program := "ytjoplgdcpihmaaa", sum := "5f4266bdcedcfc33435211091abe40a631be51ee1a3d264bf7c470c8a8618ff2", func := "beguinage/beguinagelaw06.TableNumbers", spec := "tableNumbers", unfollowed := true, recurses := true, apart := false, narrowed := true }
def TableNumbersUptoSaid : Prop := tableNumbersUptoRow.holds Try.pinned (OpenSpec.upto tableNumbersSpec)

/-- 'beguinagelaw06.TableLimits', WHERE WHAT IT READS IS OF BULK AT MOST 1048576: true; the input reads as it did. -/
def tableLimitsUptoRow : OpenClaim := { program := "ytjoplgdcpihmaaa", sum := "5f4266bdcedcfc33435211091abe40a631be51ee1a3d264bf7c470c8a8618ff2", func := "beguinage/beguinagelaw06.TableLimits", spec := "tableLimits", unfollowed := true, recurses := true, apart := false, narrowed := true }
def TableLimitsUptoSaid : Prop := tableLimitsUptoRow.holds Try.pinned (OpenSpec.upto tableLimitsSpec)

/-- 'beguinagelaw06.TableEmpty', WHERE WHAT IT READS IS OF BULK AT MOST 1048576: true; the input reads as it did. -/
def tableEmptyUptoRow : OpenClaim := { program := "ytjoplgdcpihmaaa", sum := "5f4266bdcedcfc33435211091abe40a631be51ee1a3d264bf7c470c8a8618ff2", func := "beguinage/beguinagelaw06.TableEmpty", spec := "tableEmpty", unfollowed := true, recurses := true, apart := false, narrowed := true }
def TableEmptyUptoSaid : Prop := tableEmptyUptoRow.holds Try.pinned (OpenSpec.upto tableEmptySpec)

/-- 'beguinagelaw06.TableApart', WHERE WHAT IT READS IS OF BULK AT MOST 1048576: true; the input reads as it did. -/
def tableApartUptoRow : OpenClaim := { program := "ytjoplgdcpihmaaa", sum := "5f4266bdcedcfc33435211091abe40a631be51ee1a3d264bf7c470c8a8618ff2", func := "beguinage/beguinagelaw06.TableApart", spec := "tableApart", unfollowed := true, recurses := true, apart := false, narrowed := true }
def TableApartUptoSaid : Prop := tableApartUptoRow.holds Try.pinned (OpenSpec.upto tableApartSpec)

/-- 'beguinagelaw13.ChunkAll', WHERE WHAT IT READS IS OF BULK AT MOST 1048576: true; the input reads as it did. -/
def chunkAllUptoRow : OpenClaim := { program := "ytjoplgdcpihmaaa", sum := "5f4266bdcedcfc33435211091abe40a631be51ee1a3d264bf7c470c8a8618ff2", func := "beguinage/beguinagelaw13.ChunkAll", spec := "chunkAll", inPlace := ["internal/abi.NoEscape", "internal/bytealg.MakeNoZero"], unfollowed := true, recurses := true, apart := false, narrowed := true }
def ChunkAllUptoSaid : Prop := chunkAllUptoRow.holds Try.pinned (OpenSpec.upto chunkAllSpec)

/-- 'beguinagelaw13.ChunkBack', WHERE WHAT IT READS IS OF BULK AT MOST 1048576: true; the input reads as it did. -/
def chunkBackUptoRow : OpenClaim := { program := "ytjoplgdcpihmaaa", sum := "5f4266bdcedcfc33435211091abe40a631be51ee1a3d264bf7c470c8a8618ff2", func := "beguinage/beguinagelaw13.ChunkBack", spec := "chunkBack", inPlace := ["internal/abi.NoEscape", "internal/bytealg.MakeNoZero"], unfollowed := true, recurses := true, apart := false, narrowed := true }
def ChunkBackUptoSaid : Prop := chunkBackUptoRow.holds Try.pinned (OpenSpec.upto chunkBackSpec)

/-- 'beguinagelaw13.ChunkSizes', WHERE WHAT IT READS IS OF BULK AT MOST 1048576: true; the input reads as it did. -/
def chunkSizesUptoRow : OpenClaim := { program := "ytjoplgdcpihmaaa", sum := "5f4266bdcedcfc33435211091abe40a631be51ee1a3d264bf7c470c8a8618ff2", func := "beguinage/beguinagelaw13.ChunkSizes", spec := "chunkSizes", inPlace := ["internal/abi.NoEscape", "internal/bytealg.MakeNoZero"], unfollowed := true, recurses := true, apart := false, narrowed := true }
def ChunkSizesUptoSaid : Prop := chunkSizesUptoRow.holds Try.pinned (OpenSpec.upto chunkSizesSpec)

/-- 'beguinagelaw13.ChunkApart', WHERE WHAT IT READS IS OF BULK AT MOST 1048576: true; the input reads as it did. -/
def chunkApartUptoRow : OpenClaim := { program := "ytjoplgdcpihmaaa", sum := "5f4266bdcedcfc33435211091abe40a631be51ee1a3d264bf7c470c8a8618ff2", func := "beguinage/beguinagelaw13.ChunkApart", spec := "chunkApart", inPlace := ["internal/abi.NoEscape", "internal/bytealg.MakeNoZero"], unfollowed := true, recurses := true, apart := false, narrowed := true }
def ChunkApartUptoSaid : Prop := chunkApartUptoRow.holds Try.pinned (OpenSpec.upto chunkApartSpec)

/-- 'beguinagelaw14.LogRefuses', WHERE WHAT IT READS IS OF BULK AT MOST 1048576: true; the input reads as it did. -/
def logRefusesUptoRow : OpenClaim := { program := "ytjoplgdcpihmaaa", sum := "5f4266bdcedcfc33435211091abe40a631be51ee1a3d264bf7c470c8a8618ff2", func := "beguinage/beguinagelaw14.LogRefuses", spec := "logRefuses", inPlace := ["internal/abi.NoEscape", "internal/bytealg.MakeNoZero"], unfollowed := true, recurses := true, apart := false, narrowed := true }
def LogRefusesUptoSaid : Prop := logRefusesUptoRow.holds Try.pinned (OpenSpec.upto logRefusesSpec)

/-- 'beguinagelaw14.LogFills', WHERE WHAT IT READS IS OF BULK AT MOST 1048576: true; the input reads as it did. -/
def logFillsUptoRow : OpenClaim := { program := "ytjoplgdcpihmaaa", sum := "5f4266bdcedcfc33435211091abe40a631be51ee1a3d264bf7c470c8a8618ff2", func := "beguinage/beguinagelaw14.LogFills", spec := "logFills", inPlace := ["internal/abi.NoEscape", "internal/bytealg.MakeNoZero"], unfollowed := true, recurses := true, apart := false, narrowed := true }
def LogFillsUptoSaid : Prop := logFillsUptoRow.holds Try.pinned (OpenSpec.upto logFillsSpec)

/-- 'beguinagelaw14.LogAppends', WHERE WHAT IT READS IS OF BULK AT MOST 1048576: true; the input reads as it did. -/
def logAppendsUptoRow : OpenClaim := { program := "ytjoplgdcpihmaaa", sum := "5f4266bdcedcfc33435211091abe40a631be51ee1a3d264bf7c470c8a8618ff2", func := "beguinage/beguinagelaw14.LogAppends", spec := "logAppends", inPlace := ["internal/abi.NoEscape", "internal/bytealg.MakeNoZero"], unfollowed := true, recurses := true, apart := false, narrowed := true }
def LogAppendsUptoSaid : Prop := logAppendsUptoRow.holds Try.pinned (OpenSpec.upto logAppendsSpec)

/-- 'beguinagelaw14.LogPower', WHERE WHAT IT READS IS OF BULK AT MOST 1048576: true; the input reads as it did. -/
def logPowerUptoRow : OpenClaim := { program := "ytjoplgdcpihmaaa", sum := "5f4266bdcedcfc33435211091abe40a631be51ee1a3d264bf7c470c8a8618ff2", func := "beguinage/beguinagelaw14.LogPower", spec := "logPower", inPlace := ["internal/abi.NoEscape", "internal/bytealg.MakeNoZero"], unfollowed := true, recurses := true, apart := false, narrowed := true }
def LogPowerUptoSaid : Prop := logPowerUptoRow.holds Try.pinned (OpenSpec.upto logPowerSpec)

/-- 'beguinagelaw15.RollOthers', WHERE WHAT IT READS IS OF BULK AT MOST 1048576: true; the input reads as it did. -/
def rollOthersUptoRow : OpenClaim := { program := "ytjoplgdcpihmaaa", sum := "5f4266bdcedcfc33435211091abe40a631be51ee1a3d264bf7c470c8a8618ff2", func := "beguinage/beguinagelaw15.RollOthers", spec := "rollOthers", inPlace := ["internal/abi.NoEscape", "internal/bytealg.MakeNoZero"], unfollowed := true, recurses := true, apart := false, narrowed := true }
def RollOthersUptoSaid : Prop := rollOthersUptoRow.holds Try.pinned (OpenSpec.upto rollOthersSpec)

/-- 'beguinagelaw15.RollAgain', WHERE WHAT IT READS IS OF BULK AT MOST 1048576: true; the input reads as it did. -/
def rollAgainUptoRow : OpenClaim := { program := "ytjoplgdcpihmaaa", sum := "5f4266bdcedcfc33435211091abe40a631be51ee1a3d264bf7c470c8a8618ff2", func := "beguinage/beguinagelaw15.RollAgain", spec := "rollAgain", inPlace := ["internal/abi.NoEscape", "internal/bytealg.MakeNoZero"], unfollowed := true, recurses := true, apart := false, narrowed := true }
def RollAgainUptoSaid : Prop := rollAgainUptoRow.holds Try.pinned (OpenSpec.upto rollAgainSpec)

/-- 'beguinagelaw15.RollTorn', WHERE WHAT IT READS IS OF BULK AT MOST 1048576: true; the input reads as it did. -/
def rollTornUptoRow : OpenClaim := { program := "ytjoplgdcpihmaaa", sum := "5f4266bdcedcfc33435211091abe40a631be51ee1a3d264bf7c470c8a8618ff2", func := "beguinage/beguinagelaw15.RollTorn", spec := "rollTorn", inPlace := ["internal/abi.NoEscape", "internal/bytealg.MakeNoZero"], unfollowed := true, recurses := true, apart := false, narrowed := true }
def RollTornUptoSaid : Prop := rollTornUptoRow.holds Try.pinned (OpenSpec.upto rollTornSpec)

/-- 'beguinagelaw15.RollEmpty', WHERE WHAT IT READS IS OF BULK AT MOST 1048576: true; the input reads as it did. -/
def rollEmptyUptoRow : OpenClaim := { program := "ytjoplgdcpihmaaa", sum := "5f4266bdcedcfc33435211091abe40a631be51ee1a3d264bf7c470c8a8618ff2", func := "beguinage/beguinagelaw15.RollEmpty", spec := "rollEmpty", inPlace := ["internal/abi.NoEscape", "internal/bytealg.MakeNoZero"], unfollowed := true, recurses := true, apart := false, narrowed := true }
def RollEmptyUptoSaid : Prop := rollEmptyUptoRow.holds Try.pinned (OpenSpec.upto rollEmptySpec)

/-- 'beguinagelaw15.RollPrefix', WHERE WHAT IT READS IS OF BULK AT MOST 1048576: true; the input reads as it did. -/
def rollPrefixUptoRow : OpenClaim := { program := "ytjoplgdcpihmaaa", sum := "5f4266bdcedcfc33435211091abe40a631be51ee1a3d264bf7c470c8a8618ff2", func := "beguinage/beguinagelaw15.RollPrefix", spec := "rollPrefix", inPlace := ["internal/abi.NoEscape", "internal/bytealg.MakeNoZero"], unfollowed := true, recurses := true, apart := false, narrowed := true }
def RollPrefixUptoSaid : Prop := rollPrefixUptoRow.holds Try.pinned (OpenSpec.upto rollPrefixSpec)

end Rows
end Go.Proofs.Ytjoplgdcpihmaaa
