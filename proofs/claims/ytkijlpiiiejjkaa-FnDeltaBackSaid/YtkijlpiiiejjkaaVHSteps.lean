-- Of the words, what this claim uses: laid by a program of this session.
/- Shorter forms of the steps through a region that draws its order: what has come up is written as one number. -/
import Derived.Test.YtkijlpiiiejjkaaVLast
namespace Go.Proofs.YtkijlpiiiejjkaaW.PrintLast
/-- The bits of m, lowest first. -/
def tfl : Nat → Nat → List Bool
  | 0, _ => []
  | n + 1, m => (m % 2 == 1) :: tfl n (m / 2)
def tf (n m : Nat) : Array Bool := ⟨tfl n m⟩
theorem sT {α : Type} (l : List α) (i : Nat) (a : α) : l.toArray.setIfInBounds i a = (l.set i a).toArray := List.setIfInBounds_toArray l i a
theorem s0 {α : Type} (x : α) (xs : List α) (a : α) : (x :: xs).set 0 a = a :: xs := rfl
theorem sS {α : Type} (x : α) (xs : List α) (n : Nat) (a : α) : (x :: xs).set (n + 1) a = x :: xs.set n a := rfl
section
variable {P : Program} {ops : Array Oper} {Q : Exit → Act → World → Prop} {md : Region.Mode} {S : World → Prop} {ds : List Nat}
theorem tK_ {oi : Oper} {fuel : Nat} {l : Array Bool} {a : Act} {w : World} (i n : Nat) (v : Value) (l' : Array Bool) (hi : ops[i]? = some oi) (hN : oi.dst = some n) (hc : takeB md ops ds l l' i = true)
    (hQ : ∀ c a w, Q (.panic c) (a.put oi.dst v) w → Q (.panic c) a w) (hy : Region.wanted oi (yielded ops a.tmps) = true) (hv : ∀ w', S w' → (execOp a.eval oi).run P w' = .ok (.value v) w') (hS : S w)
    (a' : Act) (ha : a.put (some n) v = a') (h : wpAnyLast P md ops Q S ds fuel l' a' w) : wpAnyLast P md ops Q S ds (fuel + 1) l a w :=
  take_ l' hi hN hc hQ (Or.inl ⟨hy, hv⟩) hS ha h
end
end Go.Proofs.YtkijlpiiiejjkaaW.PrintLast
