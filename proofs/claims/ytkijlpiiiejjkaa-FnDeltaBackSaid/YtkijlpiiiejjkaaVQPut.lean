-- Of the words, what this claim uses: laid by a program of this session.
import Derived.Test.YtkijlpiiiejjkaaVWords
import Derived.Test.YtkijlpiiiejjkaaVLast
namespace Go.Proofs.YtkijlpiiiejjkaaW.PrintWords
open Go.RowKit
namespace Kd
section
variable {α : Type} {d : Kd α} {e base g o n cap : Nat} {ok okp : Nat → Prop} {w W : World} {v : Value} {xs : List α}
end
section
variable {α : Type} {enc : α → Value} {h1 : ∀ x, (enc x).oneCell' = true} {e base g o n cap : Nat} {ok : Nat → Prop} {W : World} {xs : List α}
end
end Kd
end Go.Proofs.YtkijlpiiiejjkaaW.PrintWords
