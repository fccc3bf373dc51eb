/- A row of bytes of one's own (HBytes): one byte is set; kept while another block is written. -/
import Derived.Test.YtklinldidfdnjaaHBytes
namespace Go.Proofs.YtklinldidfdnjaaW.PrintWords
open Go.RowKit Go.Lib
set_option linter.unusedVariables false
theorem RowB.keep {e : TypeId} {w w' : World} {base g0 : Nat} {v : Value} {xs : List Int} (h : RowB e w base v xs) (hk : KeepBut w w' g0 none) (hg : g0 < base) : RowB e w' base v xs := by
  obtain ⟨g, cap, rfl, h1, h2, h3, h4, h5⟩ := h
  have hb : w'.heap[g]? = w.heap[g]? := hk.2 g h2 (by omega) (by simp)
  have hc : ∀ j, w'.cell? ⟨g, j, none⟩ = w.cell? ⟨g, j, none⟩ := fun j => by simp only [World.cell?, hb]
  have hf : ∀ j, w'.frozen? ⟨g, j, none⟩ = w.frozen? ⟨g, j, none⟩ := fun j => by simp only [World.frozen?, hb]
  exact ⟨g, cap, rfl, h1, by have := hk.1; omega, h3, fun j hj => by rw [hc, hf]; exact h4 j hj, fun j hj => by rw [hc]; exact h5 j hj⟩
/-- Where it stands. -/
theorem RowB.form {e : TypeId} {w : World} {base : Nat} {v : Value} {xs : List Int} (h : RowB e w base v xs) : ∃ g cap, v = .slice (some ⟨g, 0, none⟩) xs.length cap ∧ base ≤ g ∧ g < w.heap.size ∧
    (∀ j, j < xs.length → w.cell? ⟨g, j, none⟩ = some (.int .u8 (xs.getD j 0)) ∧ w.frozen? ⟨g, j, none⟩ = false) ∧
    ∀ (j : Nat) (x : Int), j < xs.length → RowB e (w.setCell ⟨g, j, none⟩ (.int .u8 x)) base v (xs.set j x) := by
  obtain ⟨g, cap, rfl, h1, h2, h3, h4, h5⟩ := h
  refine ⟨g, cap, rfl, h1, h2, fun j hj => ⟨h5 j hj, (h4 j (by omega)).2⟩, fun j x hj => ?_⟩
  have hsome := (h4 j (by omega)).1
  refine ⟨g, cap, by rw [List.length_set], h1, by rw [World.size_setCell]; exact h2, by rw [List.length_set]; exact h3, fun q hq => ?_, fun q hq => ?_⟩
  · rw [World.frozen?_setCell]
    refine ⟨?_, (h4 q hq).2⟩
    by_cases e : q = j
    · subst e
      rw [World.cell?_setCell_same' _ _ _ hsome]
      rfl
    · have hne : (⟨g, j, none⟩ : Addr) ≠ ⟨g, q, none⟩ := fun h => e (by injection h with _ h2 _; exact h2.symm)
      rw [World.cell?_setCell_other (h := hne)]
      exact (h4 q hq).1
  · rw [List.length_set] at hq
    by_cases e : q = j
    · subst e
      rw [World.cell?_setCell_same' _ _ _ hsome, List.getD_eq_getElem?_getD, List.getElem?_set_self hq]
      rfl
    · have hne : (⟨g, j, none⟩ : Addr) ≠ ⟨g, q, none⟩ := fun h => e (by injection h with _ h2 _; exact h2.symm)
      rw [World.cell?_setCell_other (h := hne), h5 q hq, List.getD_eq_getElem?_getD, List.getD_eq_getElem?_getD, List.getElem?_set_ne (fun h => e h.symm)]
end Go.Proofs.YtklinldidfdnjaaW.PrintWords
