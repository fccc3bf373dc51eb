-- Of the words, what this claim uses: laid by a program of this session.
import Derived.SizedLaws
import Derived.ChangeSlices
namespace Go.Proofs.YtkijlpiiiejjkaaW.PrintWords
open Go.ChangeShapes Go.WideShapes
end Go.Proofs.YtkijlpiiiejjkaaW.PrintWords
