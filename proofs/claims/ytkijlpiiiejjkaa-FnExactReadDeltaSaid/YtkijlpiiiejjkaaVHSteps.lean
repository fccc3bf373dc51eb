-- Of the words, what this claim uses: laid by a program of this session.
/- Shorter forms of the steps through a region that draws its order: what has come up is written as one number. -/
import Derived.Test.YtkijlpiiiejjkaaVLast
namespace Go.Proofs.YtkijlpiiiejjkaaW.PrintLast
/-- The bits of m, lowest first. -/
def tfl : Nat → Nat → List Bool
  | 0, _ => []
  | n + 1, m => (m % 2 == 1) :: tfl n (m / 2)
def tf (n m : Nat) : Array Bool := ⟨tfl n m⟩
theorem s0 {α : Type} (x : α) (xs : List α) (a : α) : (x :: xs).set 0 a = a :: xs := rfl
theorem sS {α : Type} (x : α) (xs : List α) (n : Nat) (a : α) : (x :: xs).set (n + 1) a = x :: xs.set n a := rfl
section
variable {P : Program} {ops : Array Oper} {Q : Exit → Act → World → Prop} {md : Region.Mode} {S : World → Prop} {ds : List Nat}
end
end Go.Proofs.YtkijlpiiiejjkaaW.PrintLast
