-- Of the words, what this claim uses: laid by a program of this session.
/- Shorter forms still: what is alike at each step is asked for by the lemma itself. -/
import Derived.Test.YtkijlpiiiejjkaaVHSteps
import Derived.Test.YtkijlpiiiejjkaaVMore
import Derived.WalkKit
namespace Go.Proofs.YtkijlpiiiejjkaaW.PrintLast
open Go.RowKit Go.Proofs.YtkijlpiiiejjkaaW.PrintWords
section
variable {P : Program} {ops : Array Oper} {Q : Exit → Act → World → Prop} {md : Region.Mode} {S : World → Prop} {ds : List Nat}
end
end Go.Proofs.YtkijlpiiiejjkaaW.PrintLast
