-- Laid by a program of this session: a turned copy of the kit's print, with contracts by hand beside.
import Derived.Test.YtefbodommaoaiaaProg
import Derived.Below
import Derived.Deep.Draws
import Derived.Deep.AppendLies
import Derived.Maps.AppendAt
import Derived.OwnWalk
import Derived.Laws.BytesArg
import Derived.Laws.MakeOwn
import Derived.Laws.OwnMore
import Derived.Deep.OwnRows
import Derived.Tactics
import Derived.Lib.ConvBytes
import Derived.Laws.Slices
import Derived.WalkKit
import Derived.KernelRfl
import Derived.RowKit3
import Derived.Deep.LoopGhost
import Derived.Deep.QuietTactic
import Derived.BigQuiet
import Derived.WideLaws
import Derived.Deep.DeepCutAuto
import Derived.Deep.CutBlock
import Derived.Deep.RegionHeld3
import Derived.Laws.Rows
import Derived.Lib.AppendStr
import Derived.ArgAppend
import Derived.Laws.IdiomCopy
import Derived.OrdersHeld
import Derived.Laws.BitsLemmas
import Derived.RowKit
import Derived.Lib.Strings
import Derived.Lib.Slices
import Derived.Lib.Walk
import Derived.Lib.Bytealg
import Derived.Test.YtefbodommaoaiaaWWords
import Derived.Test.YtefbodommaoaiaaWLast
import Derived.Test.YtefbodommaoaiaaWTab
import Derived.Test.YtefbodommaoaiaaWFour
import Derived.Test.YtefbodommaoaiaaWQPut
import Derived.Test.YtefbodommaoaiaaWApart
import Derived.Test.YtefbodommaoaiaaWArr
import Derived.Test.YtefbodommaoaiaaWZeros
import Derived.Test.YtefbodommaoaiaaWFoot
import Derived.Test.YtefbodommaoaiaaWKept
import Derived.Test.YtefbodommaoaiaaWShare
import Derived.Test.YtefbodommaoaiaaWN
import Derived.Test.YtefbodommaoaiaaWFootNe
import Derived.Test.YtefbodommaoaiaaWAt
import Derived.Test.YtefbodommaoaiaaWEqStruct
import Derived.Test.YtefbodommaoaiaaWRepsOne
import Derived.Test.YtefbodommaoaiaaWInv
import Derived.Test.YtefbodommaoaiaaWInvWords
import Derived.Test.YtefbodommaoaiaaWGuard
import Derived.Test.YtefbodommaoaiaaWNEv
import Derived.Test.YtefbodommaoaiaaWMore
import Derived.Test.YtefbodommaoaiaaWSized
namespace Go.Proofs.Ytefbodommaoaiaa.PFnExactReadWord32
open Go.RowKit Go.Proofs.YtefbodommaoaiaaW.PrintWords Go.Proofs.YtefbodommaoaiaaW.PrintLast Go.Proofs.YtefbodommaoaiaaW.PrintMore
attribute [local go_sem] max2_int min2_int max_two min_two max_three min_three max_four min_four   -- for this text's walks alone
set_option linter.unusedVariables false
set_option linter.unusedSimpArgs false



def errW : Option Int → Value
  | none => .nilIface
  | some c => .iface 0 (.int .i64 c)
theorem errW_none : errW none = .nilIface := rfl
theorem errW_some (c : Int) : errW (some c) = .iface 0 (.int .i64 c) := rfl

-- the values' own types

end Go.Proofs.Ytefbodommaoaiaa.PFnExactReadWord32
