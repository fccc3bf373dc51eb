-- Laid by a program of this session: a turned copy of the kit's print, with contracts by hand beside.
import Derived.Test.YtklinldidfdnjaaDoorProg
import Derived.Below
import Derived.Deep.Draws
import Derived.Deep.AppendLies
import Derived.Maps.AppendAt
import Derived.OwnWalk
import Derived.Laws.BytesArg
import Derived.Laws.MakeOwn
import Derived.Laws.OwnMore
import Derived.Deep.OwnRows
import Derived.Tactics
import Derived.Lib.ConvBytes
import Derived.Laws.Slices
import Derived.WalkKit
import Derived.KernelRfl
import Derived.RowKit3
import Derived.Deep.LoopGhost
import Derived.Deep.QuietTactic
import Derived.BigQuiet
import Derived.WideLaws
import Derived.Deep.DeepCutAuto
import Derived.Deep.CutBlock
import Derived.Deep.RegionHeld3
import Derived.Laws.Rows
import Derived.Lib.AppendStr
import Derived.ArgAppend
import Derived.Laws.IdiomCopy
import Derived.OrdersHeld
import Derived.Laws.BitsLemmas
import Derived.RowKit
import Derived.Lib.Strings
import Derived.Lib.Slices
import Derived.Lib.Walk
import Derived.Lib.Bytealg
import Derived.Laws.Runes
import Derived.WalkMore
import Derived.Lib.Small
import Derived.Lib.BitFns
import Derived.Lib.Mul64
import Derived.Test.YtklinldidfdnjaaDoorHSteps
import Derived.Test.YtklinldidfdnjaaDoorHShort
import Derived.Laws.Cover1
import Derived.Laws.Cover2
import Derived.Test.YtklinldidfdnjaaDoorShSplit
import Derived.Test.YtklinldidfdnjaaDoorWWords
import Derived.Test.YtklinldidfdnjaaDoorWLast
import Derived.Test.YtklinldidfdnjaaDoorWTab
import Derived.Test.YtklinldidfdnjaaDoorWFour
import Derived.Test.YtklinldidfdnjaaDoorWQPut
import Derived.Test.YtklinldidfdnjaaDoorWApart
import Derived.Test.YtklinldidfdnjaaDoorWArr
import Derived.Test.YtklinldidfdnjaaDoorWZeros
import Derived.Test.YtklinldidfdnjaaDoorWFoot
import Derived.Test.YtklinldidfdnjaaDoorWKept
import Derived.Test.YtklinldidfdnjaaDoorWShare
import Derived.Test.YtklinldidfdnjaaDoorWN
import Derived.Test.YtklinldidfdnjaaDoorWFootNe
import Derived.Test.YtklinldidfdnjaaDoorWAt
import Derived.Test.YtklinldidfdnjaaDoorWEqStruct
import Derived.Test.YtklinldidfdnjaaDoorWRepsOne
import Derived.Test.YtklinldidfdnjaaDoorWInv
import Derived.Test.YtklinldidfdnjaaDoorWInvWords
import Derived.Test.YtklinldidfdnjaaDoorWGuard
import Derived.Test.YtklinldidfdnjaaDoorWNEv
import Derived.Test.YtklinldidfdnjaaDoorWMore
import Derived.Test.YtklinldidfdnjaaDoorWSized
namespace Go.Proofs.YtklinldidfdnjaaDoor.PFnExactValueOk
open Go.RowKit Go.Proofs.YtklinldidfdnjaaDoorW.PrintWords Go.Proofs.YtklinldidfdnjaaDoorW.PrintLast Go.Proofs.YtklinldidfdnjaaDoorW.PrintMore
attribute [local go_sem] max2_int min2_int max_two min_two max_three min_three max_four min_four   -- for this text's walks alone
set_option linter.unusedVariables false
set_option linter.unusedSimpArgs false



def errW : Option Int → Value
  | none => .nilIface
  | some c => .iface 0 (.int .i64 c)
theorem errW_none : errW none = .nilIface := rfl
theorem errW_some (c : Int) : errW (some c) = .iface 0 (.int .i64 c) := rfl

theorem info9 : (Tryd.prog.info? 9).map (fun i => (i.zero, i.size, i.bytes)) = some (some (.string ⟨#[]⟩), 1, 16) := by kernel_rfl
-- the values' own types

end Go.Proofs.YtklinldidfdnjaaDoor.PFnExactValueOk
