/- The pure statement of FnExactWord32: both make the same thirteen digits. -/
import Derived.Test.YtefbodommaoaiaaPFnExactWord32x0
import Derived.Test.YtefbodommaoaiaaPFnExactWord32x1
import Derived.Test.YtefbodommaoaiaaBase
namespace Go.Proofs.Ytefbodommaoaiaa.Pure
open Go.RowKit Go.Proofs.YtefbodommaoaiaaW.PrintWords Go.Proofs.YtefbodommaoaiaaW.PrintLast Go.Proofs.YtefbodommaoaiaaW.PrintMore Go.Proofs.Ytefbodommaoaiaa.PFnExactWord32 Go.Proofs.Ytefbodommaoaiaa.Base

-- Word32
theorem spec_Word32_loop (x : Int) (h0 : 0 ≤ x) (h1 : x < 18446744073709551616) : ∀ (n : Nat) (k : Nat) (acc : List Int), n ≤ 13 → acc.length + n ≤ 13 → n < k →
    spec_Word32.l0 k x acc ((n : Int) - 1) = some (strOfNums (acc ++ ds x n)) := by
  intro n
  induction n with
  | zero =>
    intro k acc _ _ hk
    obtain ⟨k, rfl⟩ : ∃ m, k = m + 1 := ⟨k - 1, by omega⟩
    simp only [spec_Word32.l0]
    rw [if_neg (by omega)]
    simp [ds]
  | succ n ih =>
    intro k acc hn ha hk
    obtain ⟨k, rfl⟩ : ∃ m, k = m + 1 := ⟨k - 1, by omega⟩
    have e0 : (((n + 1 : Nat) : Int) - 1) = (n : Int) := by omega
    have e1 : IntKind.u64.wrap (wrap64 (5 * (n : Int))) = 5 * (n : Int) := by rw [w64 _ (by omega) (by omega), u64w _ (by omega) (by omega)]
    have d0 := div_lo x h0 (5 * n)
    have d1 := div_hi x h0 (5 * n)
    have e2 : Go.bits .and .u64 (shr .u64 x (5 * (n : Int))) 31 = x / 2 ^ (5 * n) % 32 := by rw [shr5 x n (by omega), and31 _ d0 (by omega)]
    rw [e0]
    simp only [spec_Word32.l0]
    rw [if_pos (by omega), e1, e2, if_pos (by omega), if_pos (by omega), if_pos (by omega), if_pos (by omega), w64 _ (by omega) (by omega)]
    rw [ih k _ (by omega) (by simp; omega) (by omega)]
    simp [ds, dg, alpha]
theorem spec_Word32_f (x : Int) (h0 : 0 ≤ x) (h1 : x < 18446744073709551616) (k : Nat) (hk : 13 < k) : spec_Word32.f k x = some (word x) := by
  have := spec_Word32_loop x h0 h1 13 k [] (by omega) (by simp) (by omega)
  exact this
theorem impl_Word32_loop (x : Int) (h0 : 0 ≤ x) (h1 : x < 18446744073709551616) : ∀ (d n : Nat) (k : Nat) (b : List Int), n + d = 13 → b.length = 13 → d < k → b.drop (13 - n) = ds x n →
    impl_Word32.l0 k x b 13 (n : Int) = some (word x) := by
  intro d
  induction d with
  | zero =>
    intro n k b hn hb hk hd
    obtain ⟨k, rfl⟩ : ∃ m, k = m + 1 := ⟨k - 1, by omega⟩
    obtain rfl : n = 13 := by omega
    simp only [impl_Word32.l0]
    rw [if_neg (by omega)]
    simp at hd
    rw [hd]; rfl
  | succ d ih =>
    intro n k b hn hb hk hd
    obtain ⟨k, rfl⟩ : ∃ m, k = m + 1 := ⟨k - 1, by omega⟩
    have e1 : wrap64 (5 * (n : Int)) = 5 * (n : Int) := by rw [w64 _ (by omega) (by omega)]
    have d0 := div_lo x h0 (5 * n)
    have d1 := div_hi x h0 (5 * n)
    have e2 : Go.bits .and .u64 (shr .u64 x (5 * (n : Int))) 31 = x / 2 ^ (5 * n) % 32 := by rw [shr5 x n (by omega), and31 _ d0 (by omega)]
    simp only [impl_Word32.l0]
    rw [if_pos (by omega), e1, e2, if_pos (by omega), if_pos (by omega), if_pos (by omega), w64 (12 - (n : Int)) (by omega) (by omega), if_pos (by omega), if_pos (by omega), up1 _ (by omega) (by omega)]
    have e3 : ((n : Int) + 1) = ((n + 1 : Nat) : Int) := by omega
    rw [e3]
    refine ih (n + 1) k _ (by omega) (by simp [hb]) (by omega) ?_
    have e4 : (12 - (n : Int)).toNat = 12 - n := by omega
    have e5 : 13 - (n + 1) = 12 - n := by omega
    rw [e4, e5, List.drop_set, if_neg (by omega), Nat.sub_self, List.drop_eq_getElem_cons (by omega)]
    have e6 : 12 - n + 1 = 13 - n := by omega
    simp only [List.set_cons_zero, e6, hd, ds, dg, alpha]
theorem impl_Word32_f (x : Int) (h0 : 0 ≤ x) (h1 : x < 18446744073709551616) (k : Nat) (hk : 13 < k) : impl_Word32.f k x = some (word x) := by
  unfold impl_Word32.f
  rw [if_pos (by decide)]
  simp only [Option.bind_some]
  exact impl_Word32_loop x h0 h1 13 0 k _ (by omega) (by simp) (by omega) (by simp [ds])

theorem FnExactWord32 : laws_FnExactWord32.Pure := by
  intro a0 h
  obtain ⟨h0, h1⟩ := u64_wf a0 h
  refine ⟨20, ?_⟩
  unfold laws_FnExactWord32.f
  rw [spec_Word32_f a0 h0 h1 20 (by omega), impl_Word32_f a0 h0 h1 20 (by omega)]
  simp

end Go.Proofs.Ytefbodommaoaiaa.Pure
