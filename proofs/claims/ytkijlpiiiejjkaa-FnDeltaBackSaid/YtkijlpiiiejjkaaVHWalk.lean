-- Of the words, what this claim uses: laid by a program of this session.
/- For walks by hand through a law that marks what it was given. -/
import Derived.Test.YtkijlpiiiejjkaaVMore
namespace Go.Proofs.YtkijlpiiiejjkaaW.PrintWords
open Go.RowKit
end Go.Proofs.YtkijlpiiiejjkaaW.PrintWords
namespace Go.Proofs.YtkijlpiiiejjkaaW.PrintWords.Kd
open Go.RowKit
section
variable {α : Type} {d : Kd α} {e g n cap base : Nat} {W : World} {ok oki : Nat → Prop} {xs : List α} {i : Int} {c : List Value}
end
end Go.Proofs.YtkijlpiiiejjkaaW.PrintWords.Kd
