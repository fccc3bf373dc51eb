-- Of the words, what this claim uses: laid by a program of this session.
import Derived.Test.YtklinldidfdnjaaVInv
import Derived.Test.YtklinldidfdnjaaVFootNe
namespace Go.Proofs.YtklinldidfdnjaaW.PrintWords
open Go.RowKit
end Go.Proofs.YtklinldidfdnjaaW.PrintWords
namespace Go.Proofs.YtklinldidfdnjaaW.PrintLast
section
variable {ops : Array Oper} {a : Act} {o og : Oper} {g : Nat} {t : Tmp} {u : Bool}
end
end Go.Proofs.YtklinldidfdnjaaW.PrintLast
