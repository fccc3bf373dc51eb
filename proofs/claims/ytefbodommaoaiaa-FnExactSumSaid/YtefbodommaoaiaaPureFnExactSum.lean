/- The pure statement of FnExactSum: the same sum over the same bytes, and the copy reads as it did. -/
import Derived.Test.YtefbodommaoaiaaPFnExactSumx1
import Derived.Test.YtefbodommaoaiaaWSized
namespace Go.Proofs.Ytefbodommaoaiaa
/-- The printed row asks for this name. -/
theorem PrintWords.sized_ints : type_of% @Go.Proofs.YtefbodommaoaiaaW.PrintWords.sized_ints := @Go.Proofs.YtefbodommaoaiaaW.PrintWords.sized_ints
end Go.Proofs.Ytefbodommaoaiaa
namespace Go.Proofs.Ytefbodommaoaiaa.Pure
open Go.RowKit Go.Proofs.Ytefbodommaoaiaa.PFnExactSum Go.Proofs.YtefbodommaoaiaaW.PrintWords Go.Proofs.YtefbodommaoaiaaW.PrintLast

theorem wrap_up (i : Int) (h0 : 0 ≤ i) (h : i ≤ 140737488355328) : wrap64 (i + 1) = i + 1 := by unfold wrap64; omega

theorem toByteS_loop (x : List Int) (hx : x.length ≤ 140737488355328) (d : Nat) : ∀ (k : Nat) (y : List Int) (i : Int), y.length = x.length → 0 ≤ i → i ≤ x.length → (x.length : Int) - i = d → d < k → y.take i.toNat = x.take i.toNat →
    laws_toByteS.l0 k x y i = some x := by
  induction d with
  | zero =>
    intro k y i hy h0 h1 hd hk he
    obtain ⟨k, rfl⟩ : ∃ m, k = m + 1 := ⟨k - 1, by omega⟩
    simp only [laws_toByteS.l0]
    rw [if_neg (by omega)]
    rw [List.take_of_length_le (by omega), List.take_of_length_le (by omega)] at he
    rw [he]
  | succ d ih =>
    intro k y i hy h0 h1 hd hk he
    obtain ⟨k, rfl⟩ : ∃ m, k = m + 1 := ⟨k - 1, by omega⟩
    simp only [laws_toByteS.l0]
    rw [if_pos (by omega), if_pos h0, if_pos (by omega), wrap_up i h0 (by omega)]
    refine ih k _ _ (by simp [hy]) (by omega) (by omega) (by omega) (by omega) ?_
    have e1 : (i + 1).toNat = i.toNat + 1 := by omega
    rw [e1, List.take_add_one, List.take_add_one, List.take_set_of_le (by omega), he, List.getElem?_set_self (by omega)]
    unfold rd
    rw [List.getElem?_eq_getElem (show i.toNat < x.length by omega)]
    simp [List.getD_eq_getElem?_getD, List.getElem?_eq_getElem (show i.toNat < x.length by omega)]
theorem toByteS_f (x : List Int) (hx : x.length ≤ 140737488355328) (k : Nat) (hk : x.length < k) : laws_toByteS.f k x = some x := by
  unfold laws_toByteS.f
  rw [if_pos (by omega), if_pos (by omega)]
  exact toByteS_loop x hx x.length k _ 0 (by simp) (by omega) (by omega) (by omega) hk (by simp)

theorem eqByteS_loop (x : List Int) (hx : x.length ≤ 140737488355328) (d : Nat) : ∀ (k : Nat) (i : Int), 0 ≤ i → i ≤ x.length → (x.length : Int) - i = d → d < k → laws_eqByteS.l0 k x x i = some true := by
  induction d with
  | zero =>
    intro k i h0 h1 hd hk
    obtain ⟨k, rfl⟩ : ∃ m, k = m + 1 := ⟨k - 1, by omega⟩
    simp only [laws_eqByteS.l0]
    rw [if_neg (by omega)]
  | succ d ih =>
    intro k i h0 h1 hd hk
    obtain ⟨k, rfl⟩ : ∃ m, k = m + 1 := ⟨k - 1, by omega⟩
    simp only [laws_eqByteS.l0]
    rw [if_pos (by omega), if_pos h0, if_pos (by omega), wrap_up i h0 (by omega)]
    simp only [if_true]
    exact ih k _ (by omega) (by omega) (by omega) (by omega)
theorem eqByteS_f (x : List Int) (hx : x.length ≤ 140737488355328) (k : Nat) (hk : x.length < k) : laws_eqByteS.f k x x = some true := by
  unfold laws_eqByteS.f
  rw [if_pos rfl]
  exact eqByteS_loop x hx x.length k 0 (by omega) (by omega) (by omega) hk

theorem sum_tail (h : Int) : ∃ r, ∀ k, spec_Sum.l1 (k + 4) h 0 = some r ∧ impl_Sum.l1 (k + 4) h 0 = some r := by
  have w1 : wrap64 (0 + 1) = 1 := by unfold wrap64; omega
  have w2 : wrap64 (1 + 1) = 2 := by unfold wrap64; omega
  have w3 : wrap64 (2 + 1) = 3 := by unfold wrap64; omega
  simp only [spec_Sum.l1, impl_Sum.l1, w1, w2, w3]
  exact ⟨_, fun k => ⟨rfl, rfl⟩⟩

theorem sum_both (x : List Int) (hx : x.length ≤ 140737488355328) (d : Nat) : ∀ (k : Nat) (h i : Int), 0 ≤ i → i ≤ x.length → (x.length : Int) - i = d → d + 5 < k →
    ∃ r, spec_Sum.l0 k x h i = some r ∧ impl_Sum.l0 k h x (x.length : Int) i = some r := by
  induction d with
  | zero =>
    intro k h i h0 h1 hd hk
    obtain ⟨k, rfl⟩ : ∃ m, k = m + 1 := ⟨k - 1, by omega⟩
    obtain ⟨k, rfl⟩ : ∃ m, k = m + 4 := ⟨k - 4, by omega⟩
    obtain ⟨r, hr⟩ := sum_tail h
    refine ⟨r, ?_, ?_⟩
    · simp only [spec_Sum.l0]; rw [if_neg (by omega)]; exact (hr k).1
    · simp only [impl_Sum.l0]; rw [if_neg (by omega)]; exact (hr k).2
  | succ d ih =>
    intro k h i h0 h1 hd hk
    obtain ⟨k, rfl⟩ : ∃ m, k = m + 1 := ⟨k - 1, by omega⟩
    have e1 : spec_Sum.l0 (k + 1) x h i = spec_Sum.l0 k x (IntKind.u64.wrap ((Go.bits .xor .u64 h (IntKind.u64.wrap (rd x i))) * 1099511628211)) (i + 1) := by
      simp only [spec_Sum.l0]; rw [if_pos (by omega), if_pos h0, wrap_up i h0 (by omega)]
    have e2 : impl_Sum.l0 (k + 1) h x (x.length : Int) i = impl_Sum.l0 k (IntKind.u64.wrap ((Go.bits .xor .u64 h (IntKind.u64.wrap (rd x i))) * 1099511628211)) x (x.length : Int) (i + 1) := by
      simp only [impl_Sum.l0]; rw [if_pos (by omega), if_pos h0, if_pos (by omega), wrap_up i h0 (by omega)]
    rw [e1, e2]
    exact ih k _ _ (by omega) (by omega) (by omega) (by omega)

theorem FnExactSum : laws_FnExactSum.Pure := by
  intro x hx _ _
  refine ⟨x.length + 10, ?_⟩
  unfold laws_FnExactSum.f
  split
  · rfl
  · have hl : x.length ≤ 140737488355328 := by omega
    obtain ⟨r, h1, h2⟩ := sum_both x hl x.length (x.length + 10) 14695981039346656037 0 (by omega) (by omega) (by omega) (by omega)
    have h3 := toByteS_f x hl (x.length + 10) (by omega)
    have h4 := eqByteS_f x hl (x.length + 10) (by omega)
    have h5 : spec_Sum.f (x.length + 10) x = some r := h1
    have h6 : impl_Sum.f (x.length + 10) x = some r := h2
    simp only [h3, h4, h5, h6, Option.bind_some]
    simp

end Go.Proofs.Ytefbodommaoaiaa.Pure
