/- Small facts on numbers, bytes and lists that the pure statements of this seat share. -/
import Derived.Test.YtefbodommaoaiaaWMore
import Derived.Laws.BitsLemmas
import Derived.Laws.Bits64b
import Derived.Lib.Bytealg
namespace Go.Proofs.Ytefbodommaoaiaa.Base
open Go.RowKit Go.Proofs.YtefbodommaoaiaaW.PrintWords Go.Proofs.YtefbodommaoaiaaW.PrintLast Go.Proofs.YtefbodommaoaiaaW.PrintMore
theorem u64w (n : Int) (h0 : 0 ≤ n) (h1 : n < 18446744073709551616) : IntKind.u64.wrap n = n := by
  simp [IntKind.wrap, IntKind.signed, IntKind.bits]; omega
theorem i64w (n : Int) (h0 : -9223372036854775808 ≤ n) (h1 : n < 9223372036854775808) : IntKind.i64.wrap n = n := by
  rw [IntKind.wrap_i64]; omega
theorem w64 (n : Int) (h0 : -9223372036854775808 ≤ n) (h1 : n < 9223372036854775808) : wrap64 n = n := by unfold wrap64; omega
theorem up1 (i : Int) (h0 : 0 ≤ i) (h : i < 9223372036854775807) : wrap64 (i + 1) = i + 1 := by unfold wrap64; omega
theorem u64_lo (n : Int) : 0 ≤ IntKind.u64.wrap n := by simp [IntKind.wrap, IntKind.signed, IntKind.bits]; omega
theorem u64_hi (n : Int) : IntKind.u64.wrap n < 18446744073709551616 := by simp [IntKind.wrap, IntKind.signed, IntKind.bits]; omega
theorem u64_wf (x : Int) (h : (Lit.int .u64 x).wf = true) : 0 ≤ x ∧ x < 18446744073709551616 := by
  simp [Lit.wf, IntKind.min, IntKind.max, IntKind.signed, IntKind.bits] at h; omega
theorem and31 (x : Int) (h0 : 0 ≤ x) (h1 : x < 18446744073709551616) : Go.bits .and .u64 x 31 = x % 32 := by
  have := bits_mask .u64 64 (by decide) (fun n a b => u64w n a (by simpa using b)) 5 (by decide) x h0 (by simpa using h1)
  simpa using this
theorem or5 (a c : Int) (h0 : 0 ≤ a) (h1 : a * 32 < 18446744073709551616) (hc0 : 0 ≤ c) (hc : c < 32) : Go.bits .or .u64 (a * 32) c = a * 32 + c := by
  have := bits_join .u64 64 (by decide) (fun n x y => u64w n x (by simpa using y)) 5 (a * 32) c (by omega) (by omega) (by simpa using h1) hc0 (by simpa using hc) (by simp; omega)
  exact this
theorem bt_list (l : List UInt8) (i : Int) : bt ⟨l.toArray⟩ i = ((l.getD i.toNat 0).toNat : Int) := by
  unfold bt
  split
  · rename_i h
    have h' : i.toNat < l.length := by simpa [ByteArray.size] using h
    rw [List.getD_eq_getElem?_getD, List.getElem?_eq_getElem h']
    rfl
  · rename_i h
    have h' : l.length ≤ i.toNat := by simpa [ByteArray.size] using h
    rw [List.getD_eq_getElem?_getD, List.getElem?_eq_none h']; rfl
/-- The alphabet of chapter 1. -/
def alpha : ByteArray := ⟨#[48, 49, 50, 51, 52, 53, 54, 55, 56, 57, 97, 98, 99, 100, 102, 103, 104, 105, 106, 107, 108, 109, 110, 112, 113, 114, 115, 118, 119, 120, 121, 122]⟩
/-- The n-th digit from the right, as its byte. -/
def dg (x : Int) (n : Nat) : Int := bt alpha (x / 2 ^ (5 * n) % 32)
/-- The last n digits. -/
def ds (x : Int) : Nat → List Int
  | 0 => []
  | n + 1 => dg x n :: ds x n
theorem ds_length (x : Int) : ∀ n, (ds x n).length = n
  | 0 => rfl
  | n + 1 => by simp [ds, ds_length x n]
/-- The thirteen bytes. -/
def word (x : Int) : ByteArray := strOfNums (ds x 13)
theorem div_lo (x : Int) (h0 : 0 ≤ x) (n : Nat) : 0 ≤ x / 2 ^ n := Int.ediv_nonneg h0 (by have := Nat.two_pow_pos n; exact_mod_cast Nat.zero_le _)
theorem div_hi (x : Int) (h0 : 0 ≤ x) (n : Nat) : x / 2 ^ n ≤ x := Int.ediv_le_self _ h0
theorem shr5 (x : Int) (n : Nat) (hn : n ≤ 12) : shr .u64 x (5 * n) = x / 2 ^ (5 * n) := by
  unfold shr
  have e : (5 * (n : Int)).toNat = 5 * n := by omega
  rw [e, Nat.min_eq_left (by simp [IntKind.bits]; omega)]

end Go.Proofs.Ytefbodommaoaiaa.Base
