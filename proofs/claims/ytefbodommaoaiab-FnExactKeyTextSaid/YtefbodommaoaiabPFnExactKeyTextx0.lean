-- Laid by a program of this session: a turned copy of the kit's print, with contracts by hand beside.
import Derived.Test.YtefbodommaoaiabProg
import Derived.Below
import Derived.Deep.Draws
import Derived.Deep.AppendLies
import Derived.Maps.AppendAt
import Derived.OwnWalk
import Derived.Laws.BytesArg
import Derived.Laws.MakeOwn
import Derived.Laws.OwnMore
import Derived.Deep.OwnRows
import Derived.Tactics
import Derived.Lib.ConvBytes
import Derived.Laws.Slices
import Derived.WalkKit
import Derived.KernelRfl
import Derived.RowKit3
import Derived.Deep.LoopGhost
import Derived.Deep.QuietTactic
import Derived.BigQuiet
import Derived.WideLaws
import Derived.Deep.DeepCutAuto
import Derived.Deep.CutBlock
import Derived.Deep.RegionHeld3
import Derived.Laws.Rows
import Derived.Lib.AppendStr
import Derived.ArgAppend
import Derived.Laws.IdiomCopy
import Derived.OrdersHeld
import Derived.Laws.BitsLemmas
import Derived.RowKit
import Derived.Lib.Strings
import Derived.Lib.Slices
import Derived.Lib.Walk
import Derived.Lib.Bytealg
import Derived.Laws.Runes
import Derived.WalkMore
import Derived.Test.YtefbodommaoaiabWWords
import Derived.Test.YtefbodommaoaiabWLast
import Derived.Test.YtefbodommaoaiabWTab
import Derived.Test.YtefbodommaoaiabWFour
import Derived.Test.YtefbodommaoaiabWQPut
import Derived.Test.YtefbodommaoaiabWApart
import Derived.Test.YtefbodommaoaiabWArr
import Derived.Test.YtefbodommaoaiabWZeros
import Derived.Test.YtefbodommaoaiabWFoot
import Derived.Test.YtefbodommaoaiabWKept
import Derived.Test.YtefbodommaoaiabWShare
import Derived.Test.YtefbodommaoaiabWN
import Derived.Test.YtefbodommaoaiabWFootNe
import Derived.Test.YtefbodommaoaiabWAt
import Derived.Test.YtefbodommaoaiabWEqStruct
import Derived.Test.YtefbodommaoaiabWRepsOne
import Derived.Test.YtefbodommaoaiabWInv
import Derived.Test.YtefbodommaoaiabWInvWords
import Derived.Test.YtefbodommaoaiabWGuard
import Derived.Test.YtefbodommaoaiabWNEv
import Derived.Test.YtefbodommaoaiabWMore
import Derived.Test.YtefbodommaoaiabWSized
namespace Go.Proofs.Ytefbodommaoaiab.PFnExactKeyText
open Go.RowKit Go.Proofs.YtefbodommaoaiabW.PrintWords Go.Proofs.YtefbodommaoaiabW.PrintLast Go.Proofs.YtefbodommaoaiabW.PrintMore
attribute [local go_sem] max2_int min2_int max_two min_two max_three min_three max_four min_four   -- for this text's walks alone
set_option linter.unusedVariables false
set_option linter.unusedSimpArgs false



def errW : Option Int → Value
  | none => .nilIface
  | some c => .iface 0 (.int .i64 c)
theorem errW_none : errW none = .nilIface := rfl
theorem errW_some (c : Int) : errW (some c) = .iface 0 (.int .i64 c) := rfl

theorem info5 : (Try.prog.info? 5).map (fun i => (i.zero, i.size, i.bytes)) = some (some (.int .u8 0), 1, 1) := by kernel_rfl
-- the values' own types

end Go.Proofs.Ytefbodommaoaiab.PFnExactKeyText
