-- Of the words, what this claim uses: laid by a program of this session.
import Derived.Test.YtkijlpiiiejjkaaVInv
import Derived.Test.YtkijlpiiiejjkaaVFootNe
namespace Go.Proofs.YtkijlpiiiejjkaaW.PrintWords
open Go.RowKit
end Go.Proofs.YtkijlpiiiejjkaaW.PrintWords
namespace Go.Proofs.YtkijlpiiiejjkaaW.PrintLast
section
variable {ops : Array Oper} {a : Act} {o og : Oper} {g : Nat} {t : Tmp} {u : Bool}
end
end Go.Proofs.YtkijlpiiiejjkaaW.PrintLast
