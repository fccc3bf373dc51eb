-- Of the words, what this claim uses: laid by a program of this session.
/- What reads as data is read by a kind: for whole numbers, bools, texts, slices and structs, a lemma each. -/
import Derived.Test.YtkijlpiiiejjkaaVMore
import Derived.ProofKit
import Derived.OpenShut
import Derived.Deep.Slices
namespace Go.Proofs.YtkijlpiiiejjkaaW.PrintWords
open Go.RowKit Go.ChangeShapes Go.WideShapes
/-- Cells that are read at type t hold a value of the kind d, and it is ok. -/
def Opens {α : Type} (P : Program) (d : Kd α) (t : TypeId) (ok : α → Prop) : Prop :=
  ∀ (H : Type) (enc : TypeId × Value → H) (w : World) (base : Nat) (spare : Nat → Bool) (held : Bool) (fuel : Nat) (cs : List Value) (x : DataW H × List MemPlace), DataW.trod enc P w base spare held fuel t cs = some x → ∃ y : α, d.K w y cs ∧ ok y
theorem opens_int {P : Program} {t : TypeId} {k : IntKind} (hu : P.underlying t = some (.int k)) : Opens P (Kd.int k) t (fun n => (Lit.int k n).wf = true) := by
  intro H enc w base spare held fuel cs x h
  obtain ⟨n, rfl, _, hw⟩ := DataW.trod_int hu h
  exact ⟨n, rfl, hw⟩
theorem choose_list {α : Type} (p : Nat → α → Prop) : ∀ n : Nat, (∀ i, i < n → ∃ y, p i y) → ∃ ys : List α, ys.length = n ∧ ∀ i y, ys[i]? = some y → p i y := by
  intro n
  induction n with
  | zero => intro _; exact ⟨[], rfl, fun i y h => by simp at h⟩
  | succ n ih =>
    intro h
    obtain ⟨ys, hl, hp⟩ := ih (fun i hi => h i (by omega))
    obtain ⟨y, hy⟩ := h n (by omega)
    refine ⟨ys ++ [y], by simp [hl], fun i z hz => ?_⟩
    rcases Nat.lt_or_ge i n with hi | hi
    · rw [List.getElem?_append_left (by omega)] at hz
      exact hp i z hz
    · rw [List.getElem?_append_right (by omega)] at hz
      have hin : i = n := by
        rcases Nat.lt_or_ge (i - ys.length) 1 with h1 | h1
        · omega
        · rw [List.getElem?_eq_none (by simpa using h1)] at hz
          cases hz
      subst hin
      rw [hl, Nat.sub_self] at hz
      simp at hz
      subst hz
      exact hy
theorem opens_slice {α : Type} {P : Program} {d : Kd α} {t e : TypeId} {ok : α → Prop} (hu : P.underlying t = some (.slice e)) (hc : P.cellsOf e = d.sz) (he : Opens P d e ok) :
    Opens P (Kd.slice e d) t (fun xs => xs.length ≤ maxLen ∧ ∀ x ∈ xs, ok x) := by
  intro H enc w base spare held fuel cs x h
  rcases Go.Deep.open_slice hu h with ⟨rfl, rfl⟩ | ⟨a, len, cap, m, n, D, Pl, rfl, _, hl, hm, hmm, _, hx⟩
  · exact ⟨[], ⟨none, 0, rfl, by simp, ⟨rfl, by simp, fun h => absurd h (by simp)⟩⟩, by simp, by simp⟩
  · have hlm : len ≤ m := by rw [hmm]; split <;> omega
    have hx' : ∀ i, i < len → ∃ y : α, ok y ∧ ∃ c : List Value, c.length = d.sz ∧ d.K w y c ∧ ∀ j u, c[j]? = some u → w.cell? (a.add (i * d.sz + j)) = some u := by
      intro i hi
      obtain ⟨cs', h1, h2⟩ := hx i (by omega)
      obtain ⟨y, hy, hok⟩ := he H enc w base spare held n cs' _ h2
      obtain ⟨_, h3, h4⟩ := World.cells?_some h1
      rw [hc] at h3 h4
      refine ⟨y, hok, cs', h3, hy, fun j u hu => ?_⟩
      have hj : j < d.sz := by
        have := (List.getElem?_eq_some_iff.1 hu).1
        omega
      have := h4 j hj
      rw [hu, Addr.add_add] at this
      exact this
    obtain ⟨ys, hyl, hyp⟩ := choose_list (fun i y => ok y ∧ ∃ c : List Value, c.length = d.sz ∧ d.K w y c ∧ ∀ j u, c[j]? = some u → w.cell? (a.add (i * d.sz + j)) = some u) len hx'
    refine ⟨ys, ⟨some a, cap, by rw [hyl], by omega, ?_⟩, by omega, fun y hy => ?_⟩
    · refine ⟨rfl, by rw [hyl]; unfold maxLen at hm; omega, fun _ => ⟨a, rfl, fun j p hp => ?_⟩⟩
      obtain ⟨_, c, h1, h2, h3⟩ := hyp j p hp
      exact ⟨c, h1, h2, h3⟩
    · obtain ⟨i, hi⟩ := List.getElem?_of_mem hy
      exact (hyp i y hi).1
/-- The fields from a place on. -/
def OpensF {α : Type} (P : Program) (d : Kd α) (fs : List Field) (off : Nat) (ok : α → Prop) : Prop :=
  ∀ (H : Type) (enc : TypeId × Value → H) (w : World) (base : Nat) (spare : Nat → Bool) (held : Bool) (fuel : Nat) (cs : List Value),
    off + d.sz ≤ cs.length → (∀ f ∈ fs, ∃ y, DataW.trod enc P w base spare held fuel f.type ((cs.drop f.offset).take (P.cellsOf f.type)) = some y) → ∃ y : α, d.K w y ((cs.drop off).take d.sz) ∧ ok y
end Go.Proofs.YtkijlpiiiejjkaaW.PrintWords
