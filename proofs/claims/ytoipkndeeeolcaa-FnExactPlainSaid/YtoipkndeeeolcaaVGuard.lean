-- Of the words, what this claim uses: laid by a program of this session.
import Derived.Test.YtoipkndeeeolcaaVWords
namespace Go.Proofs.YtoipkndeeeolcaaW.PrintWords
open Go.RowKit
section
variable {P : Program} {ops : Array Oper} {rest : List Oper} {o : Oper} {a : Act} {Q : Exit → Act → World → Prop} {W : World}
end
end Go.Proofs.YtoipkndeeeolcaaW.PrintWords
