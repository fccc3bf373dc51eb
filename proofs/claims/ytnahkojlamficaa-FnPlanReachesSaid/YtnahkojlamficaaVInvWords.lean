-- Of the words, what this claim uses: laid by a program of this session.
import Derived.Test.YtnahkojlamficaaVInv
import Derived.Test.YtnahkojlamficaaVFootNe
namespace Go.Proofs.YtnahkojlamficaaW.PrintWords
open Go.RowKit
end Go.Proofs.YtnahkojlamficaaW.PrintWords
namespace Go.Proofs.YtnahkojlamficaaW.PrintLast
section
variable {ops : Array Oper} {a : Act} {o og : Oper} {g : Nat} {t : Tmp} {u : Bool}
end
end Go.Proofs.YtnahkojlamficaaW.PrintLast
