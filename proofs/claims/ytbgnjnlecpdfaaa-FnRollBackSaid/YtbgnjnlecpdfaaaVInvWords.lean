-- Of the words, what this claim uses: laid by a program of this session.
import Derived.Test.YtbgnjnlecpdfaaaVInv
import Derived.Test.YtbgnjnlecpdfaaaVFootNe
namespace Go.Proofs.YtbgnjnlecpdfaaaW.PrintWords
open Go.RowKit
end Go.Proofs.YtbgnjnlecpdfaaaW.PrintWords
namespace Go.Proofs.YtbgnjnlecpdfaaaW.PrintLast
section
variable {ops : Array Oper} {a : Act} {o og : Oper} {g : Nat} {t : Tmp} {u : Bool}
end
end Go.Proofs.YtbgnjnlecpdfaaaW.PrintLast
