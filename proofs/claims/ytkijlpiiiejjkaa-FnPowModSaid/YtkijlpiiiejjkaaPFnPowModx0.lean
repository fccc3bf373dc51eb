-- Laid by a program of this session: a turned copy of the kit's print, with contracts by hand beside.
import Derived.Test.YtkijlpiiiejjkaaProg
import Derived.Below
import Derived.Deep.Draws
import Derived.Deep.AppendLies
import Derived.Maps.AppendAt
import Derived.OwnWalk
import Derived.Laws.BytesArg
import Derived.Laws.MakeOwn
import Derived.Laws.OwnMore
import Derived.Deep.OwnRows
import Derived.Tactics
import Derived.Lib.ConvBytes
import Derived.Laws.Slices
import Derived.WalkKit
import Derived.KernelRfl
import Derived.RowKit3
import Derived.Deep.LoopGhost
import Derived.Deep.QuietTactic
import Derived.BigQuiet
import Derived.WideLaws
import Derived.Deep.DeepCutAuto
import Derived.Deep.CutBlock
import Derived.Deep.RegionHeld3
import Derived.Laws.Rows
import Derived.Lib.AppendStr
import Derived.ArgAppend
import Derived.Laws.IdiomCopy
import Derived.OrdersHeld
import Derived.Laws.BitsLemmas
import Derived.RowKit
import Derived.Lib.Strings
import Derived.Lib.Slices
import Derived.Lib.Walk
import Derived.Lib.Bytealg
import Derived.Laws.Runes
import Derived.WalkMore
import Derived.Lib.Small
import Derived.Lib.BitFns
import Derived.Lib.Mul64
import Derived.Test.YtkijlpiiiejjkaaHLen64
import Derived.Test.YtkijlpiiiejjkaaWWords
import Derived.Test.YtkijlpiiiejjkaaWLast
import Derived.Test.YtkijlpiiiejjkaaWTab
import Derived.Test.YtkijlpiiiejjkaaWFour
import Derived.Test.YtkijlpiiiejjkaaWQPut
import Derived.Test.YtkijlpiiiejjkaaWApart
import Derived.Test.YtkijlpiiiejjkaaWArr
import Derived.Test.YtkijlpiiiejjkaaWZeros
import Derived.Test.YtkijlpiiiejjkaaWFoot
import Derived.Test.YtkijlpiiiejjkaaWKept
import Derived.Test.YtkijlpiiiejjkaaWShare
import Derived.Test.YtkijlpiiiejjkaaWN
import Derived.Test.YtkijlpiiiejjkaaWFootNe
import Derived.Test.YtkijlpiiiejjkaaWAt
import Derived.Test.YtkijlpiiiejjkaaWEqStruct
import Derived.Test.YtkijlpiiiejjkaaWRepsOne
import Derived.Test.YtkijlpiiiejjkaaWInv
import Derived.Test.YtkijlpiiiejjkaaWInvWords
import Derived.Test.YtkijlpiiiejjkaaWGuard
import Derived.Test.YtkijlpiiiejjkaaWNEv
import Derived.Test.YtkijlpiiiejjkaaWMore
import Derived.Test.YtkijlpiiiejjkaaWSized
namespace Go.Proofs.Ytkijlpiiiejjkaa.PFnPowMod
open Go.RowKit Go.Proofs.YtkijlpiiiejjkaaW.PrintWords Go.Proofs.YtkijlpiiiejjkaaW.PrintLast Go.Proofs.YtkijlpiiiejjkaaW.PrintMore
attribute [local go_sem] max2_int min2_int max_two min_two max_three min_three max_four min_four   -- for this text's walks alone
set_option linter.unusedVariables false
set_option linter.unusedSimpArgs false



def errW : Option Int → Value
  | none => .nilIface
  | some c => .iface 0 (.int .i64 c)
theorem errW_none : errW none = .nilIface := rfl
theorem errW_some (c : Int) : errW (some c) = .iface 0 (.int .i64 c) := rfl

theorem info44 : (Try.prog.info? 44).map (fun i => (i.zero, i.size, i.bytes)) = some (some (.int .u64 0), 1, 8) := by kernel_rfl
-- the values' own types

end Go.Proofs.Ytkijlpiiiejjkaa.PFnPowMod
