-- Of the words, what this claim uses: laid by a program of this session.
/- For walks by hand through a law that marks what it was given. -/
import Derived.Test.YtkijlpiiiejjkaaVMore
namespace Go.Proofs.YtkijlpiiiejjkaaW.PrintWords
open Go.RowKit
theorem below_of {w w' : World} (h : Drawn0 w w') : Below w.heap.size w w' := by
  obtain ⟨n, rfl⟩ := h
  exact pw_below_drewN (Below.refl _ _) n
end Go.Proofs.YtkijlpiiiejjkaaW.PrintWords
namespace Go.Proofs.YtkijlpiiiejjkaaW.PrintWords.Kd
open Go.RowKit
section
variable {α : Type} {d : Kd α} {e g n cap base : Nat} {W : World} {ok oki : Nat → Prop} {xs : List α} {i : Int} {c : List Value}
/-- The lent element's cells, as the block has them. -/
theorem H_cells (h : H d e W base ok (.slice (some ⟨g, 0, none⟩) n cap) xs i oki c) (h0 : 0 ≤ i) (h1 : i < n) :
    c.length = d.sz ∧ (∀ j u, c[j]? = some u → W.cell? ⟨g, i.toNat * d.sz + j, none⟩ = some u) ∧ ∀ j, W.frozen? ⟨g, i.toNat * d.sz + j, none⟩ = false := by
  obtain ⟨rows, _, hraw, hcl, _, hcc, _⟩ := H_raw h h0 h1
  obtain ⟨_, _, _, _, hfr⟩ := R_elem hraw [] i h0 h1
  exact ⟨hcl, hcc, hfr⟩
/-- One cell of it is written. -/
theorem H_put (h : H d e W base ok (.slice (some ⟨g, 0, none⟩) n cap) xs i oki c) (h0 : 0 ≤ i) (h1 : i < n) (j : Nat) (u : Value) (hj : j < d.sz) (hu : u.oneCell' = true) :
    H d e (W.setCell ⟨g, i.toNat * d.sz + j, none⟩ u) base ok (.slice (some ⟨g, 0, none⟩) n cap) xs i oki (c.set j u) ∧ W.grownBy (W.setCell ⟨g, i.toNat * d.sz + j, none⟩ u) (some g) := by
  have hl := (H_cells h h0 h1).1
  have := H_seg h h0 h1 (seg := [u]) (j := j) (by simp only [List.length_cons, List.length_nil]; omega) (fun q hq => by rw [List.mem_singleton.1 hq]; exact hu)
  have e1 : c.take j ++ [u] ++ c.drop (j + [u].length) = c.set j u := by
    rw [List.set_eq_take_append_cons_drop, if_pos (by omega)]
    simp
  rw [e1] at this
  exact this
/-- What is lent is not the row's own block. -/
theorem lent_ne (hoki : ∀ k, oki k → ok k ∧ k ≠ g) : ∀ k, oki k → some k ≠ some g := fun k hk he => (hoki k hk).2 (by injection he)
end
end Go.Proofs.YtkijlpiiiejjkaaW.PrintWords.Kd
