/- The pure statement of FnExactPrimeOk: the two trial divisions are one and the same, and end. -/
import Derived.Test.YtefbodommaoaiaaPFnExactPrimeOkx1
namespace Go.Proofs.Ytefbodommaoaiaa.Pure
open Go.RowKit Go.Proofs.Ytefbodommaoaiaa.PFnExactPrimeOk Go.Proofs.YtefbodommaoaiaaW.PrintWords Go.Proofs.YtefbodommaoaiaaW.PrintLast

theorem po_same : ∀ k, (∀ y0 y1, spec_PrimeOk.j0 k y0 y1 = impl_PrimeOk.j0 k y0 y1) ∧ (∀ y0 y1, spec_PrimeOk.l0 k y0 y1 = impl_PrimeOk.l0 k y0 y1) := by
  intro k
  induction k with
  | zero => exact ⟨fun _ _ => by simp only [spec_PrimeOk.j0, impl_PrimeOk.j0], fun _ _ => by simp only [spec_PrimeOk.l0, impl_PrimeOk.l0]⟩
  | succ k ih => exact ⟨fun _ _ => by simp only [spec_PrimeOk.j0, impl_PrimeOk.j0, ih.2], fun _ _ => by simp only [spec_PrimeOk.l0, impl_PrimeOk.l0, ih.2]⟩

theorem u64w (n : Int) (h0 : 0 ≤ n) (h1 : n < 18446744073709551616) : IntKind.u64.wrap n = n := by
  simp [IntKind.wrap, IntKind.signed, IntKind.bits]; omega

theorem po_ends (a : Int) (ha : a ≤ 2147483647) (d : Nat) : ∀ (k : Nat) (x : Int), 3 ≤ x → x ≤ 46345 → 46345 - x ≤ d → d < k → ∃ b, spec_PrimeOk.l0 k a x = some b := by
  induction d with
  | zero =>
    intro k x h0 h1 hd hk
    obtain ⟨k, rfl⟩ : ∃ m, k = m + 1 := ⟨k - 1, by omega⟩
    obtain rfl : x = 46345 := by omega
    simp only [spec_PrimeOk.l0]
    rw [u64w _ (by omega) (by omega), if_neg (by omega)]
    exact ⟨_, rfl⟩
  | succ d ih =>
    intro k x h0 h1 hd hk
    obtain ⟨k, rfl⟩ : ∃ m, k = m + 1 := ⟨k - 1, by omega⟩
    simp only [spec_PrimeOk.l0]
    have hx : x * x ≤ 46345 * 46345 := Int.mul_le_mul h1 h1 (by omega) (by omega)
    have hx0 : 0 ≤ x * x := Int.mul_nonneg (by omega) (by omega)
    rw [u64w (x * x) hx0 (by omega), u64w (x + 2) (by omega) (by omega)]
    by_cases h2 : x * x ≤ a
    · have hx3 : x ≤ 46341 := by
        rcases Int.lt_or_le 46341 x with h | h
        · have := Int.mul_le_mul (show (46342 : Int) ≤ x by omega) (show (46342 : Int) ≤ x by omega) (by omega) (by omega)
          omega
        · exact h
      rw [if_pos h2, if_neg (by omega)]
      by_cases h3 : Int.tmod a x = 0
      · rw [if_pos h3]; exact ⟨_, rfl⟩
      · rw [if_neg h3]; exact ih k (x + 2) (by omega) (by omega) (by omega) (by omega)
    · rw [if_neg h2]; exact ⟨_, rfl⟩

theorem FnExactPrimeOk : laws_FnExactPrimeOk.Pure := by
  intro a0 w0
  have hs : ∀ k, spec_PrimeOk.f k a0 = impl_PrimeOk.f k a0 := by
    intro k; simp only [spec_PrimeOk.f, impl_PrimeOk.f, (po_same k).1]
  have he : ∃ b, spec_PrimeOk.f 50000 a0 = some b := by
    unfold spec_PrimeOk.f
    obtain ⟨k, hk⟩ : ∃ k, (50000 : Nat) = k + 1 := ⟨49999, rfl⟩
    rw [hk]
    simp only [spec_PrimeOk.j0]
    split
    · exact ⟨_, rfl⟩
    · split
      · exact ⟨_, rfl⟩
      · split
        · exact ⟨_, rfl⟩
        · exact po_ends a0 (by omega) 46342 k 3 (by omega) (by omega) (by omega) (by omega)
  obtain ⟨b, hb⟩ := he
  refine ⟨50000, ?_⟩
  unfold laws_FnExactPrimeOk.f
  rw [← hs, hb]
  simp

end Go.Proofs.Ytefbodommaoaiaa.Pure
