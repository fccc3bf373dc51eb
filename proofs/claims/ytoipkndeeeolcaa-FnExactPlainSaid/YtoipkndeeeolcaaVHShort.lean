-- Of the words, what this claim uses: laid by a program of this session.
/- Shorter forms still: what is alike at each step is asked for by the lemma itself. -/
import Derived.Test.YtoipkndeeeolcaaVHSteps
import Derived.Test.YtoipkndeeeolcaaVMore
import Derived.WalkKit
namespace Go.Proofs.YtoipkndeeeolcaaW.PrintLast
open Go.RowKit Go.Proofs.YtoipkndeeeolcaaW.PrintWords
section
variable {P : Program} {ops : Array Oper} {Q : Exit → Act → World → Prop} {md : Region.Mode} {S : World → Prop} {ds : List Nat}
end
end Go.Proofs.YtoipkndeeeolcaaW.PrintLast
