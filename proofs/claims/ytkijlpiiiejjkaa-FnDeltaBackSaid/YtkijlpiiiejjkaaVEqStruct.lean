-- Of the words, what this claim uses: laid by a program of this session.
import Derived.Test.YtkijlpiiiejjkaaVWords
import Derived.Laws.StructEq
namespace Go.Proofs.YtkijlpiiiejjkaaW.PrintWords
open Go.RowKit
section
variable {P : Program} {d : Nat} {xs ys : Array Value} {f : Field} {fs : List Field} {a b : Value} {r s : Bool} {w : World}
end
end Go.Proofs.YtkijlpiiiejjkaaW.PrintWords
