-- Of the words, what this claim uses: laid by a program of this session.
/- For walks by hand: rows of structs whose rows of strings may share a block are marked: what is still told is that strings stay strings. -/
import Derived.Test.YtnahkojlamficaaVMore
import Derived.Test.YtnahkojlamficaaVKept
namespace Go.Proofs.YtnahkojlamficaaW.PrintWords
open Go.RowKit
/-- b is a block that begins with n strings. -/
def StrB (w : World) (b n : Nat) : Prop := ∃ cs : Array Value, w.heap[b]? = some (Obj.cells cs 9 (0, 0)) ∧ ∀ i, i < n → ∃ s, cs[i]? = some (Value.string s)
/-- Rows of strings stay rows of strings; the other blocks of cells stay. -/
structure Soft (w w1 : World) : Prop where
  str : ∀ b n, StrB w b n → StrB w1 b n
  row : ∀ (b : Nat) (cs : Array Value) (t : TypeId), t ≠ 9 → w.heap[b]? = some (Obj.cells cs t (0, 0)) → w1.heap[b]? = some (Obj.cells cs t (0, 0))
theorem Soft.refl (w : World) : Soft w w := ⟨fun _ _ h => h, fun _ _ _ _ h => h⟩
theorem Soft.trans {a b c : World} (h : Soft a b) (k : Soft b c) : Soft a c := ⟨fun x n e => k.str x n (h.str x n e), fun x cs t ht e => k.row x cs t ht (h.row x cs t ht e)⟩
theorem Soft.of_below {w w1 : World} (h : Below w.heap.size w w1) : Soft w w1 := ⟨fun b _ ⟨cs, e, f⟩ => ⟨cs, (h.block b (blk_lt e)).trans e, f⟩, fun b _ _ _ e => (h.block b (blk_lt e)).trans e⟩
theorem Soft.put {w : World} {b i : Nat} {cs : Array Value} (hb : w.heap[b]? = some (Obj.cells cs 9 (0, 0))) (s : ByteArray) : Soft w (w.setCell ⟨b, i, none⟩ (.string s)) := by
  refine ⟨fun b' n ⟨cs', e, f⟩ => ?_, fun b' cs' t ht e => ?_⟩
  · by_cases c : b' = b
    · subst c
      rw [hb] at e
      injection e with e
      injection e with e
      subst e
      refine ⟨_, blk_put hb i (.string s) rfl, fun j hj => ?_⟩
      obtain ⟨s', hs⟩ := f j hj
      rw [Array.getElem?_setIfInBounds]
      by_cases d : i = j
      · subst d
        rw [if_pos rfl, if_pos (Array.getElem?_eq_some_iff.1 hs).1]
        exact ⟨s, rfl⟩
      · rw [if_neg d]
        exact ⟨s', hs⟩
    · exact ⟨cs', (Below.heap_setCell w ⟨b, i, none⟩ _ b' c).trans e, f⟩
  · have c : b' ≠ b := blk_ne e hb ht
    exact (Below.heap_setCell w ⟨b, i, none⟩ _ b' c).trans e
/-- v is a row of n strings: of blocks that P has, from B on. -/
def StrV (w : World) (B : Nat) (P : Nat → Prop) (v : Value) (n : Nat) : Prop := ∃ A c, v = .slice A n c ∧ (n = 0 ∨ ∃ b, A = some ⟨b, 0, none⟩ ∧ P b ∧ B ≤ b ∧ StrB w b n)
theorem StrV.soft {w w1 : World} {B n : Nat} {P : Nat → Prop} {v : Value} (h : StrV w B P v n) (k : ∀ b n, StrB w b n → StrB w1 b n) : StrV w1 B P v n := by
  obtain ⟨A, c, e, h⟩ := h
  refine ⟨A, c, e, h.imp_right ?_⟩
  rintro ⟨b, e1, e2, e3, e4⟩
  exact ⟨b, e1, e2, e3, k b n e4⟩
theorem StrV.of_R {w : World} {B : Nat} {ok P : Nat → Prop} {v : Value} {xs : List ByteArray} (h : Kd.R Kd.string 9 w B ok v xs) (hP : ∀ k, ok k → P k) : StrV w B P v xs.length := by
  obtain ⟨A, c, e⟩ := Kd.R_slice h
  subst e
  refine ⟨A, c, rfl, ?_⟩
  by_cases hz : xs.length = 0
  · exact .inl hz
  · refine .inr ?_
    obtain ⟨g, cap, e, hb, _, cells, hc⟩ := Kd.R_form h (by omega)
    injection e with e1 e2 e3
    subst e1
    refine ⟨g, rfl, hP g (h.1 g rfl), hb, cells, hc, fun i hi => ?_⟩
    have := (Kd.R_celln (⟨#[]⟩ : ByteArray) h (i : Int) (by omega) (by omega)).1
    rw [Int.toNat_natCast, blk_cell hc] at this
    exact ⟨_, this⟩
/-- g is a block of m elements of five cells, the second and third of them rows of strings. -/
def UnB (w : World) (B : Nat) (P : Nat → Prop) (q : TypeId) (g : Nat) (m : Nat) (N : Nat → Nat × Nat) : Prop :=
  P g ∧ B ≤ g ∧ ∃ cs : Array Value, w.heap[g]? = some (Obj.cells cs q (0, 0)) ∧ ∀ j, j < m → j * 5 + 4 < cs.size ∧ ∃ v1 v2, cs[j * 5 + 1]? = some v1 ∧ cs[j * 5 + 2]? = some v2 ∧ StrV w B P v1 (N j).1 ∧ StrV w B P v2 (N j).2
theorem UnB.soft {w w1 : World} {B g m : Nat} {P : Nat → Prop} {q : TypeId} {N : Nat → Nat × Nat} (h : UnB w B P q g m N) (hq : q ≠ 9) (k : Soft w w1) : UnB w1 B P q g m N := by
  obtain ⟨h1, h2, cs, hb, h⟩ := h
  refine ⟨h1, h2, cs, k.row g cs q hq hb, fun j hj => ?_⟩
  obtain ⟨a, v1, v2, b, c, d, e⟩ := h j hj
  exact ⟨a, v1, v2, b, c, d.soft k.str, e.soft k.str⟩
theorem UnB.put {w : World} {B g m : Nat} {P : Nat → Prop} {q : TypeId} {N : Nat → Nat × Nat} (h : UnB w B P q g m N) (hq : q ≠ 9) (i p : Nat) (hp : p = 0 ∨ p = 3 ∨ p = 4) (u : Value) : UnB (w.setCell ⟨g, i * 5 + p, none⟩ u) B P q g m N := by
  obtain ⟨h1, h2, cs, hb, h⟩ := h
  have hs : ∀ b n, StrB w b n → StrB (w.setCell ⟨g, i * 5 + p, none⟩ u) b n := by
    rintro b n ⟨cs', e, f⟩
    have c : b ≠ g := blk_ne e hb (fun e => hq e.symm)
    exact ⟨cs', (Below.heap_setCell w ⟨g, i * 5 + p, none⟩ u b c).trans e, f⟩
  refine ⟨h1, h2, _, blk_put hb (i * 5 + p) u rfl, fun j hj => ?_⟩
  obtain ⟨a, v1, v2, b, c, d, e⟩ := h j hj
  refine ⟨by rw [Array.size_setIfInBounds]; exact a, v1, v2, ?_, ?_, d.soft hs, e.soft hs⟩
  · rw [Array.getElem?_setIfInBounds, if_neg (by omega)]
    exact b
  · rw [Array.getElem?_setIfInBounds, if_neg (by omega)]
    exact c
/-- What a walk needs of one element. -/
theorem UnB.at_ {w : World} {B g m : Nat} {P : Nat → Prop} {q : TypeId} {N : Nat → Nat × Nat} (h : UnB w B P q g m N) (i : Nat) (hi : i < m) :
    ∃ u0 A1 c1 A2 c2 u3 u4, w.cell? ⟨g, i * 5, none⟩ = some u0 ∧ w.cell? ⟨g, i * 5 + 1, none⟩ = some (.slice A1 (N i).1 c1) ∧ w.cell? ⟨g, i * 5 + 2, none⟩ = some (.slice A2 (N i).2 c2) ∧ w.cell? ⟨g, i * 5 + 3, none⟩ = some u3 ∧ w.cell? ⟨g, i * 5 + 4, none⟩ = some u4 ∧
      (∀ j, w.frozen? ⟨g, j, none⟩ = false) ∧ StrV w B P (.slice A1 (N i).1 c1) (N i).1 ∧ StrV w B P (.slice A2 (N i).2 c2) (N i).2 := by
  obtain ⟨h1, h2, cs, hb, h⟩ := h
  obtain ⟨a, v1, v2, b, c, d, e⟩ := h i hi
  obtain ⟨A1, c1, rfl, _⟩ := id d
  obtain ⟨A2, c2, rfl, _⟩ := id e
  have hx : ∀ p, p < 5 → ∃ u, w.cell? ⟨g, i * 5 + p, none⟩ = some u := fun p hp => by
    rw [blk_cell hb]
    exact ⟨_, Array.getElem?_eq_getElem (by omega)⟩
  obtain ⟨u0, x0⟩ := hx 0 (by omega)
  obtain ⟨u3, x3⟩ := hx 3 (by omega)
  obtain ⟨u4, x4⟩ := hx 4 (by omega)
  exact ⟨u0, A1, c1, A2, c2, u3, u4, x0, by rw [blk_cell hb]; exact b, by rw [blk_cell hb]; exact c, x3, x4, fun j => blk_frozen hb j, d, e⟩
end Go.Proofs.YtnahkojlamficaaW.PrintWords
