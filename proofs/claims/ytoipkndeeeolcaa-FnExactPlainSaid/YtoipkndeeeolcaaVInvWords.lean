-- Of the words, what this claim uses: laid by a program of this session.
import Derived.Test.YtoipkndeeeolcaaVInv
import Derived.Test.YtoipkndeeeolcaaVFootNe
namespace Go.Proofs.YtoipkndeeeolcaaW.PrintWords
open Go.RowKit
end Go.Proofs.YtoipkndeeeolcaaW.PrintWords
namespace Go.Proofs.YtoipkndeeeolcaaW.PrintLast
section
variable {ops : Array Oper} {a : Act} {o og : Oper} {g : Nat} {t : Tmp} {u : Bool}
end
end Go.Proofs.YtoipkndeeeolcaaW.PrintLast
