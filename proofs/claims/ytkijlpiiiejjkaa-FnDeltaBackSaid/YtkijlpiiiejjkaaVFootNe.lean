-- Of the words, what this claim uses: laid by a program of this session.
import Derived.Test.YtkijlpiiiejjkaaVN
namespace Go.Proofs.YtkijlpiiiejjkaaW.PrintWords
open Go.RowKit
namespace Kd
section
variable {α : Type} {d : Kd α} {W : World} {g n : Nat} {S ok : Nat → Prop} {A : Option Addr} {ad : Addr} {xs : List α}
end
end Kd
end Go.Proofs.YtkijlpiiiejjkaaW.PrintWords
