-- Of the words, what this claim uses: laid by a program of this session.
/- Shorter forms still: what is alike at each step is asked for by the lemma itself. -/
import Derived.Test.YtkijlpiiiejjkaaVHSteps
import Derived.Test.YtkijlpiiiejjkaaVMore
import Derived.WalkKit
namespace Go.Proofs.YtkijlpiiiejjkaaW.PrintLast
open Go.RowKit Go.Proofs.YtkijlpiiiejjkaaW.PrintWords
section
variable {P : Program} {ops : Array Oper} {Q : Exit → Act → World → Prop} {md : Region.Mode} {S : World → Prop} {ds : List Nat}
theorem qA {oi : Oper} {fuel : Nat} {l : Array Bool} {a : Act} {w : World} {v : Value} {a' : Act} (i n : Nat) (l' : Array Bool) (h : wpAnyLast P md ops Q S ds fuel l' a' w)
    (hi : ops[i]? = some oi := by rfl) (hN : oi.dst = some n := by rfl) (hc : anyB md ops l l' i = true := by exact any_of HT_.out (by kernel_rfl))
    (hy : Region.wanted oi (yielded ops a.tmps) = true := by rfl) (hv : ∀ w', (execOp a.eval oi).run P w' = .ok (.value v) w' := by intro w'; go_simp; with_reducible rfl)
    (ha : a.put (some n) v = a' := by simp only [Act.put, sT, s0, sS, i64_w, i32_w]; rfl) (hQ : ∀ c a w, Q (.panic c) (a.put oi.dst v) w → Q (.panic c) a w := by exact fun _ _ _ h => h) :
    wpAnyLast P md ops Q S ds (fuel + 1) l a w :=
  pure_ l' hi hN hc hQ (Or.inl ⟨hy, hv⟩) ha h
theorem qU {oi : Oper} {fuel : Nat} {l : Array Bool} {a : Act} {w : World} {a' : Act} (i n : Nat) (l' : Array Bool) (h : wpAnyLast P md ops Q S ds fuel l' a' w)
    (hi : ops[i]? = some oi := by rfl) (hN : oi.dst = some n := by rfl) (hc : anyB md ops l l' i = true := by exact any_of HT_.out (by kernel_rfl))
    (hy : Region.wanted oi (yielded ops a.tmps) = false := by rfl)
    (ha : a.put (some n) undef = a' := by simp only [Act.put, sT, s0, sS, i64_w, i32_w]; rfl) (hQ : ∀ c a w, Q (.panic c) (a.put oi.dst undef) w → Q (.panic c) a w := by exact fun _ _ _ h => h) :
    wpAnyLast P md ops Q S ds (fuel + 1) l a w :=
  pure_ l' hi hN hc hQ (Or.inr ⟨hy, rfl⟩) ha h
theorem qT {oi : Oper} {fuel : Nat} {l : Array Bool} {a : Act} {w : World} {v : Value} {a' : Act} (i n : Nat) (l' : Array Bool) (h : wpAnyLast P md ops Q S ds fuel l' a' w)
    (hi : ops[i]? = some oi := by rfl) (hN : oi.dst = some n := by rfl) (hc : takeB md ops ds l l' i = true := by exact take_ofW HT_.out HW_.out (by kernel_rfl))
    (hy : Region.wanted oi (yielded ops a.tmps) = true := by rfl) (hv : ∀ w', S w' → (execOp a.eval oi).run P w' = .ok (.value v) w' := by intro w'; (try simp only [and_imp]); intros; go_simp; with_reducible rfl) (hS : S w := by exact hHeld)
    (ha : a.put (some n) v = a' := by simp only [Act.put, sT, s0, sS, i64_w, i32_w]; rfl) (hQ : ∀ c a w, Q (.panic c) (a.put oi.dst v) w → Q (.panic c) a w := by exact fun _ _ _ h => h) :
    wpAnyLast P md ops Q S ds (fuel + 1) l a w :=
  take_ l' hi hN hc hQ (Or.inl ⟨hy, hv⟩) hS ha h
end
/-- What lies below, stores and new objects peeled off. -/
theorem qB {X : Prop} (h : X := by repeat (first | (with_reducible first | exact HB.out | apply below_alloc | apply pw_below_drewN | apply below_drew1) | exact HB.out)) : X := h
theorem qG {A X : Prop} (g : A) (h : A → X := by intro g_; repeat (first | (with_reducible first | exact HB.out | apply below_alloc | apply pw_below_drewN | apply below_drew1 | refine below_set ?_ g_) | exact HB.out)) : X := h g
theorem qK {A X : Prop} (g : A) (h : A → X := by intro g_; (with_reducible repeat (first | refine blk_drewN ?_ _ | refine blk_drew ?_ | refine blk_alloc ?_ _)); exact g_) : X := h g
end Go.Proofs.YtkijlpiiiejjkaaW.PrintLast
