/- The pure statement of FnExactKeyword: both look for the text in the same list of ten. -/
import Derived.Test.YtefbodommaoaiaaPFnExactKeywordx1
namespace Go.Proofs.Ytefbodommaoaiaa.Pure
open Go.RowKit Go.Proofs.Ytefbodommaoaiaa.PFnExactKeyword Go.Proofs.YtefbodommaoaiaaW.PrintWords Go.Proofs.YtefbodommaoaiaaW.PrintLast

theorem kw_w (i : Int) (h0 : 0 ≤ i) (h : i ≤ 1000000) : wrap64 (i + 1) = i + 1 := by unfold wrap64; omega

theorem kw_both (s : ByteArray) (l : List ByteArray) (hl : l.length ≤ 1000) (d : Nat) : ∀ (k : Nat) (i : Int), 0 ≤ i → i ≤ l.length → (l.length : Int) - i = d → d < k →
    ∃ b j, spec_Keyword.l0 k s l i = some b ∧ slices_Index_string_string.l0 k l s (l.length : Int) i = some j ∧ decide (j ≥ 0) = b := by
  induction d with
  | zero =>
    intro k i h0 h1 hd hk
    obtain ⟨k, rfl⟩ : ∃ m, k = m + 1 := ⟨k - 1, by omega⟩
    refine ⟨false, -1, ?_, ?_, by decide⟩
    · simp only [spec_Keyword.l0]; rw [if_neg (by omega)]
    · simp only [slices_Index_string_string.l0]; rw [if_neg (by omega)]
  | succ d ih =>
    intro k i h0 h1 hd hk
    obtain ⟨k, rfl⟩ : ∃ m, k = m + 1 := ⟨k - 1, by omega⟩
    have e1 : spec_Keyword.l0 (k + 1) s l i = if (rdOf ByteArray.empty l i).toList = s.toList then some true else spec_Keyword.l0 k s l (i + 1) := by
      simp only [spec_Keyword.l0]
      rw [if_pos (by omega), if_pos h0, kw_w i h0 (by omega)]
    have e2 : slices_Index_string_string.l0 (k + 1) l s (l.length : Int) i = if s.toList = (rdOf ByteArray.empty l i).toList then some i else slices_Index_string_string.l0 k l s (l.length : Int) (i + 1) := by
      simp only [slices_Index_string_string.l0]
      rw [if_pos (by omega), if_pos h0, if_pos (by omega), kw_w i h0 (by omega)]
    rw [e1, e2]
    by_cases e : (rdOf ByteArray.empty l i).toList = s.toList
    · exact ⟨true, i, by rw [if_pos e], by rw [if_pos e.symm], by simpa using h0⟩
    · obtain ⟨b, j, h2, h3, h4⟩ := ih k (i + 1) (by omega) (by omega) (by omega) (by omega)
      exact ⟨b, j, by rw [if_neg e]; exact h2, by rw [if_neg (fun h => e h.symm)]; exact h3, h4⟩

def kwl : List ByteArray := [(⟨#[108, 101, 116]⟩ : ByteArray), (⟨#[105, 110]⟩ : ByteArray), (⟨#[114, 101, 99]⟩ : ByteArray), (⟨#[119, 105, 116, 104]⟩ : ByteArray), (⟨#[105, 102]⟩ : ByteArray), (⟨#[116, 104, 101, 110]⟩ : ByteArray), (⟨#[101, 108, 115, 101]⟩ : ByteArray), (⟨#[105, 110, 104, 101, 114, 105, 116]⟩ : ByteArray), (⟨#[97, 115, 115, 101, 114, 116]⟩ : ByteArray), (⟨#[111, 114]⟩ : ByteArray)]

theorem FnExactKeyword : laws_FnExactKeyword.Pure := by
  intro a0 w0
  refine ⟨20, ?_⟩
  unfold laws_FnExactKeyword.f
  split
  · rfl
  · unfold spec_Keyword.f impl_Keyword.f slices_Contains_string_string.f slices_Index_string_string.f
    obtain ⟨b, j, h2, h3, h4⟩ := kw_both a0 kwl (by decide) 10 20 0 (by omega) (by decide) (by decide) (by omega)
    unfold kwl at h2 h3
    rw [h2, h3]
    simp only [Option.bind_some, h4]
    simp

end Go.Proofs.Ytefbodommaoaiaa.Pure
