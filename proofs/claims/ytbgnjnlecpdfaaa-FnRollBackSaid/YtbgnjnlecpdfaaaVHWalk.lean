-- Of the words, what this claim uses: laid by a program of this session.
/- For walks by hand through a law that marks what it was given. -/
import Derived.Test.YtbgnjnlecpdfaaaVMore
namespace Go.Proofs.YtbgnjnlecpdfaaaW.PrintWords
open Go.RowKit
end Go.Proofs.YtbgnjnlecpdfaaaW.PrintWords
namespace Go.Proofs.YtbgnjnlecpdfaaaW.PrintWords.Kd
open Go.RowKit
section
variable {α : Type} {d : Kd α} {e g n cap base : Nat} {W : World} {ok oki : Nat → Prop} {xs : List α} {i : Int} {c : List Value}
theorem H_cells (h : H d e W base ok (.slice (some ⟨g, 0, none⟩) n cap) xs i oki c) (h0 : 0 ≤ i) (h1 : i < n) :
    c.length = d.sz ∧ (∀ j u, c[j]? = some u → W.cell? ⟨g, i.toNat * d.sz + j, none⟩ = some u) ∧ ∀ j, W.frozen? ⟨g, i.toNat * d.sz + j, none⟩ = false := by
  obtain ⟨rows, _, hraw, hcl, _, hcc, _⟩ := H_raw h h0 h1
  obtain ⟨_, _, _, _, hfr⟩ := R_elem hraw [] i h0 h1
  exact ⟨hcl, hcc, hfr⟩
end
end Go.Proofs.YtbgnjnlecpdfaaaW.PrintWords.Kd
