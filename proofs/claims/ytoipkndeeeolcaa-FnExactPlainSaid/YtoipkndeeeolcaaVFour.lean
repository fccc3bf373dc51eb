-- Of the words, what this claim uses: laid by a program of this session.
import Derived.Test.YtoipkndeeeolcaaVTab
namespace Go.Proofs.YtoipkndeeeolcaaW.PrintLast
section
variable {P : Program} {ops : Array Oper} {Q : Exit → Act → World → Prop} {md : Region.Mode} {S : World → Prop} {ds : List Nat} {T : Bool × List (List Nat × List Nat)}
end
end Go.Proofs.YtoipkndeeeolcaaW.PrintLast
