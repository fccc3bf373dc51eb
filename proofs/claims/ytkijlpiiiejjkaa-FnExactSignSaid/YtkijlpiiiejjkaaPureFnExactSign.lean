/- The pure statement of FnExactSign: both sides sign with the same power. -/
import Derived.Test.YtkijlpiiiejjkaaPFnExactSignx0
import Derived.Test.YtkijlpiiiejjkaaPFnExactSignx1
import Derived.Test.YtkijlpiiiejjkaaPFnExactSignx2
import Derived.Test.YtkijlpiiiejjkaaPFnExactSignx3
import Derived.Laws.BitsLemmas
import Derived.Laws.Bits64b
import Derived.Lib.Bytealg
namespace Go.Proofs.Ytkijlpiiiejjkaa.Pure
open Go.RowKit Go.Proofs.YtkijlpiiiejjkaaW.PrintWords Go.Proofs.YtkijlpiiiejjkaaW.PrintLast Go.Proofs.YtkijlpiiiejjkaaW.PrintMore Go.Proofs.Ytkijlpiiiejjkaa.PFnExactSign

theorem u64w (n : Int) (h0 : 0 ≤ n) (h1 : n < 18446744073709551616) : IntKind.u64.wrap n = n := by
  simp [IntKind.wrap, IntKind.signed, IntKind.bits]; omega
theorem i64w (n : Int) (h0 : -9223372036854775808 ≤ n) (h1 : n < 9223372036854775808) : IntKind.i64.wrap n = n := by
  rw [IntKind.wrap_i64]; omega
theorem w64 (n : Int) (h0 : -9223372036854775808 ≤ n) (h1 : n < 9223372036854775808) : wrap64 n = n := by unfold wrap64; omega
theorem up1 (i : Int) (h0 : 0 ≤ i) (h : i < 9223372036854775807) : wrap64 (i + 1) = i + 1 := by unfold wrap64; omega
theorem u64_lo (n : Int) : 0 ≤ IntKind.u64.wrap n := by simp [IntKind.wrap, IntKind.signed, IntKind.bits]; omega
theorem u64_hi (n : Int) : IntKind.u64.wrap n < 18446744073709551616 := by simp [IntKind.wrap, IntKind.signed, IntKind.bits]; omega
theorem u64_wf (x : Int) (h : (Lit.int .u64 x).wf = true) : 0 ≤ x ∧ x < 18446744073709551616 := by
  simp [Lit.wf, IntKind.min, IntKind.max, IntKind.signed, IntKind.bits] at h; omega
theorem and31 (x : Int) (h0 : 0 ≤ x) (h1 : x < 18446744073709551616) : Go.bits .and .u64 x 31 = x % 32 := by
  have := bits_mask .u64 64 (by decide) (fun n a b => u64w n a (by simpa using b)) 5 (by decide) x h0 (by simpa using h1)
  simpa using this
theorem or5 (a c : Int) (h0 : 0 ≤ a) (h1 : a * 32 < 18446744073709551616) (hc0 : 0 ≤ c) (hc : c < 32) : Go.bits .or .u64 (a * 32) c = a * 32 + c := by
  have := bits_join .u64 64 (by decide) (fun n x y => u64w n x (by simpa using y)) 5 (a * 32) c (by omega) (by omega) (by simpa using h1) hc0 (by simpa using hc) (by simp; omega)
  exact this
theorem bt_list (l : List UInt8) (i : Int) : bt ⟨l.toArray⟩ i = ((l.getD i.toNat 0).toNat : Int) := by
  unfold bt
  split
  · rename_i h
    have h' : i.toNat < l.length := by simpa [ByteArray.size] using h
    rw [List.getD_eq_getElem?_getD, List.getElem?_eq_getElem h']
    rfl
  · rename_i h
    have h' : l.length ≤ i.toNat := by simpa [ByteArray.size] using h
    rw [List.getD_eq_getElem?_getD, List.getElem?_eq_none h']; rfl
/-- The alphabet of chapter 1. -/
def alpha : ByteArray := ⟨#[48, 49, 50, 51, 52, 53, 54, 55, 56, 57, 97, 98, 99, 100, 102, 103, 104, 105, 106, 107, 108, 109, 110, 112, 113, 114, 115, 118, 119, 120, 121, 122]⟩
/-- The n-th digit from the right, as its byte. -/
def dg (x : Int) (n : Nat) : Int := bt alpha (x / 2 ^ (5 * n) % 32)
/-- The last n digits. -/
def ds (x : Int) : Nat → List Int
  | 0 => []
  | n + 1 => dg x n :: ds x n
theorem ds_length (x : Int) : ∀ n, (ds x n).length = n
  | 0 => rfl
  | n + 1 => by simp [ds, ds_length x n]
/-- The thirteen bytes. -/
def word (x : Int) : ByteArray := strOfNums (ds x 13)
theorem div_lo (x : Int) (h0 : 0 ≤ x) (n : Nat) : 0 ≤ x / 2 ^ n := Int.ediv_nonneg h0 (by have := Nat.two_pow_pos n; exact_mod_cast Nat.zero_le _)
theorem div_hi (x : Int) (h0 : 0 ≤ x) (n : Nat) : x / 2 ^ n ≤ x := Int.ediv_le_self _ h0
theorem shr5 (x : Int) (n : Nat) (hn : n ≤ 12) : shr .u64 x (5 * n) = x / 2 ^ (5 * n) := by
  unfold shr
  have e : (5 * (n : Int)).toNat = 5 * n := by omega
  rw [e, Nat.min_eq_left (by simp [IntKind.bits]; omega)]
/-- What a byte is worth as a digit; -1: it is none. -/
def dv (c : Int) : Int := Lib.indexByte alpha.data.toList c.toNat.toUInt8
theorem dv_all : ∀ c : Fin 256, -1 ≤ dv (c.val : Int) ∧ dv (c.val : Int) < 32 := by decide +kernel
theorem dv_bounds (c : Int) (h0 : 0 ≤ c) (h1 : c ≤ 255) : -1 ≤ dv c ∧ dv c < 32 := by
  have := dv_all ⟨c.toNat, by omega⟩
  simpa [Int.toNat_of_nonneg h0] using this
/-- The number that thirteen digits tell, from the i-th on. -/
def rwGo (s : ByteArray) : Nat → Int → Nat → Int × Bool
  | 0, x, _ => (x, true)
  | d + 1, x, i => if dv (bt s i) < 0 then (0, false) else if i = 0 ∧ dv (bt s i) > 15 then (0, false) else rwGo s d (x * 32 + dv (bt s i)) (i + 1)
def rw32 (s : ByteArray) : Int × Bool := if s.size = 13 then rwGo s 13 0 0 else (0, false)
/-- The bound that the digits so far keep. -/
def lim (d : Nat) : Int := if d = 13 then 1 else 2 ^ (64 - 5 * d)
theorem lim_all : ∀ d : Fin 13, lim d.val ≤ 18446744073709551616 ∧ 0 < lim d.val ∧ (d.val < 12 → lim (d.val + 1) * 32 = lim d.val) ∧ (d.val = 12 → lim d.val = 16) ∧ lim (d.val + 1) * 32 ≤ 18446744073709551616 := by decide +kernel
theorem word_size (x : Int) : (word x).size = 13 := by unfold word; rw [strOfNums_size, ds_length]

-- toByteS
theorem toByteS_loop (x : List Int) (hx : x.length ≤ 140737488355328) (d : Nat) : ∀ (k : Nat) (y : List Int) (i : Int), y.length = x.length → 0 ≤ i → i ≤ x.length → (x.length : Int) - i = d → d < k → y.take i.toNat = x.take i.toNat →
    laws_toByteS.l0 k x y i = some x := by
  induction d with
  | zero =>
    intro k y i hy h0 h1 hd hk he
    obtain ⟨k, rfl⟩ : ∃ m, k = m + 1 := ⟨k - 1, by omega⟩
    simp only [laws_toByteS.l0]
    rw [if_neg (by omega)]
    rw [List.take_of_length_le (by omega), List.take_of_length_le (by omega)] at he
    rw [he]
  | succ d ih =>
    intro k y i hy h0 h1 hd hk he
    obtain ⟨k, rfl⟩ : ∃ m, k = m + 1 := ⟨k - 1, by omega⟩
    simp only [laws_toByteS.l0]
    rw [if_pos (by omega), if_pos h0, if_pos (by omega), up1 i h0 (by omega)]
    refine ih k _ _ (by simp [hy]) (by omega) (by omega) (by omega) (by omega) ?_
    have e1 : (i + 1).toNat = i.toNat + 1 := by omega
    rw [e1, List.take_add_one, List.take_add_one, List.take_set_of_le (by omega), he, List.getElem?_set_self (by omega)]
    unfold rd
    rw [List.getElem?_eq_getElem (show i.toNat < x.length by omega)]
    simp [List.getD_eq_getElem?_getD, List.getElem?_eq_getElem (show i.toNat < x.length by omega)]
theorem toByteS_f (x : List Int) (hx : x.length ≤ 140737488355328) (k : Nat) (hk : x.length < k) : laws_toByteS.f k x = some x := by
  unfold laws_toByteS.f
  rw [if_pos (by omega), if_pos (by omega)]
  exact toByteS_loop x hx x.length k _ 0 (by simp) (by omega) (by omega) (by omega) hk (by simp)

-- eqByteS
theorem eqByteS_loop (x : List Int) (hx : x.length ≤ 140737488355328) (d : Nat) : ∀ (k : Nat) (i : Int), 0 ≤ i → i ≤ x.length → (x.length : Int) - i = d → d < k → laws_eqByteS.l0 k x x i = some true := by
  induction d with
  | zero =>
    intro k i h0 h1 hd hk
    obtain ⟨k, rfl⟩ : ∃ m, k = m + 1 := ⟨k - 1, by omega⟩
    simp only [laws_eqByteS.l0]
    rw [if_neg (by omega)]
  | succ d ih =>
    intro k i h0 h1 hd hk
    obtain ⟨k, rfl⟩ : ∃ m, k = m + 1 := ⟨k - 1, by omega⟩
    simp only [laws_eqByteS.l0]
    rw [if_pos (by omega), if_pos h0, if_pos (by omega), up1 i h0 (by omega)]
    simp only [if_true]
    exact ih k _ (by omega) (by omega) (by omega) (by omega)
theorem eqByteS_f (x : List Int) (hx : x.length ≤ 140737488355328) (k : Nat) (hk : x.length < k) : laws_eqByteS.f k x x = some true := by
  unfold laws_eqByteS.f
  rw [if_pos rfl]
  exact eqByteS_loop x hx x.length k 0 (by omega) (by omega) (by omega) hk

-- Sum
theorem sum_tail (h : Int) : ∃ r, (0 ≤ r ∧ r < 18446744073709551616) ∧ ∀ k, spec_Sum.l1 (k + 4) h 0 = some r ∧ impl_Sum.l1 (k + 4) h 0 = some r := by
  have w1 : wrap64 (0 + 1) = 1 := by unfold wrap64; omega
  have w2 : wrap64 (1 + 1) = 2 := by unfold wrap64; omega
  have w3 : wrap64 (2 + 1) = 3 := by unfold wrap64; omega
  simp only [spec_Sum.l1, impl_Sum.l1, w1, w2, w3]
  exact ⟨_, ⟨u64_lo _, u64_hi _⟩, fun k => ⟨rfl, rfl⟩⟩

theorem sum_both (x : List Int) (hx : x.length ≤ 140737488355328) (d : Nat) : ∀ (k : Nat) (h i : Int), 0 ≤ i → i ≤ x.length → (x.length : Int) - i = d → d + 5 < k →
    ∃ r, (0 ≤ r ∧ r < 18446744073709551616) ∧ spec_Sum.l0 k x h i = some r ∧ impl_Sum.l0 k h x (x.length : Int) i = some r := by
  induction d with
  | zero =>
    intro k h i h0 h1 hd hk
    obtain ⟨k, rfl⟩ : ∃ m, k = m + 1 := ⟨k - 1, by omega⟩
    obtain ⟨k, rfl⟩ : ∃ m, k = m + 4 := ⟨k - 4, by omega⟩
    obtain ⟨r, hb, hr⟩ := sum_tail h
    refine ⟨r, hb, ?_, ?_⟩
    · simp only [spec_Sum.l0]; rw [if_neg (by omega)]; exact (hr k).1
    · simp only [impl_Sum.l0]; rw [if_neg (by omega)]; exact (hr k).2
  | succ d ih =>
    intro k h i h0 h1 hd hk
    obtain ⟨k, rfl⟩ : ∃ m, k = m + 1 := ⟨k - 1, by omega⟩
    have e1 : spec_Sum.l0 (k + 1) x h i = spec_Sum.l0 k x (IntKind.u64.wrap ((Go.bits .xor .u64 h (IntKind.u64.wrap (rd x i))) * 1099511628211)) (i + 1) := by
      simp only [spec_Sum.l0]; rw [if_pos (by omega), if_pos h0, up1 i h0 (by omega)]
    have e2 : impl_Sum.l0 (k + 1) h x (x.length : Int) i = impl_Sum.l0 k (IntKind.u64.wrap ((Go.bits .xor .u64 h (IntKind.u64.wrap (rd x i))) * 1099511628211)) x (x.length : Int) (i + 1) := by
      simp only [impl_Sum.l0]; rw [if_pos (by omega), if_pos h0, if_pos (by omega), up1 i h0 (by omega)]
    rw [e1, e2]
    exact ih k _ _ (by omega) (by omega) (by omega) (by omega)

theorem Sum_f (x : List Int) (hx : x.length ≤ 140737488355328) : ∃ r, 0 ≤ r ∧ r < 18446744073709551616 ∧ ∀ k, x.length + 6 ≤ k → spec_Sum.f k x = some r ∧ impl_Sum.f k x = some r := by
  obtain ⟨r, hb, h1, h2⟩ := sum_both x hx x.length (x.length + 6) 14695981039346656037 0 (by omega) (by omega) (by omega) (by omega)
  have h1' : spec_Sum.f (x.length + 6) x = some r := h1
  have h2' : impl_Sum.f (x.length + 6) x = some r := h2
  exact ⟨r, hb.1, hb.2, fun k hk => ⟨at_rounds (g := fun k => spec_Sum.f k x) (fun k => spec_Sum.mono x k) hk h1', at_rounds (g := fun k => impl_Sum.f k x) (fun k => impl_Sum.mono x k) hk h2'⟩⟩

-- Div64
theorem kn_mul (q a b r U : Int) (hq : q * a + r = U) : q * (a * 4294967296 + b) = (U - r) * 4294967296 + q * b := by
  rw [Int.mul_add, ← Int.mul_assoc]
  have : q * a = U - r := by omega
  rw [this]
theorem kn_lt (U Y d : Int) (hU : U < Y) (hd : d < 4294967296) (hY : 0 < Y) : (U * 4294967296 + d) / Y < 4294967296 := by
  refine Int.ediv_lt_of_lt_mul hY ?_
  omega
theorem kn_yes (U Y a b d q r : Int) (hY : Y = a * 4294967296 + b) (hp : 0 < Y) (hU : U < Y) (hd : d < 4294967296) (hq : q * a + r = U)
    (h : q ≥ 4294967296 ∨ q * b > 4294967296 * r + d) : (U * 4294967296 + d) / Y ≤ q - 1 := by
  rcases h with h | h
  · have := kn_lt U Y d hU hd hp
    omega
  · have e := kn_mul q a b r U hq
    rw [← hY] at e
    have : (U * 4294967296 + d) / Y < q := by
      refine Int.ediv_lt_of_lt_mul hp ?_
      rw [e]; omega
    omega
theorem kn_no (U Y a b d q r : Int) (hY : Y = a * 4294967296 + b) (hp : 0 < Y) (hq : q * a + r = U) (hge : (U * 4294967296 + d) / Y ≤ q)
    (h : q * b ≤ 4294967296 * r + d) : q = (U * 4294967296 + d) / Y := by
  have e := kn_mul q a b r U hq
  rw [← hY] at e
  have : q ≤ (U * 4294967296 + d) / Y := by
    refine Int.le_ediv_of_mul_le hp ?_
    rw [e]; omega
  omega
theorem kn_small (q b : Int) (_hq0 : 0 ≤ q) (hq : q ≤ 4294967296) (hb0 : 0 ≤ b) (hb : b < 4294967296) : q * b ≤ 18446744069414584320 := by
  have := Int.mul_le_mul hq (show b ≤ 4294967295 by omega) hb0 (by omega)
  omega
theorem kn_first (U a b : Int) (ha : 2147483648 ≤ a) (hb : b < 4294967296) (hU : U < a * 4294967296 + b) : U / a ≤ 4294967297 := by
  have : U / a < 4294967298 := by
    refine Int.ediv_lt_of_lt_mul (by omega) ?_
    omega
  omega
theorem u64m (n : Int) : IntKind.u64.wrap n = n % 18446744073709551616 := by simp [IntKind.wrap, IntKind.signed, IntKind.bits]
/-- The first loop: it comes to the digit. -/
theorem div_l0 (Y s a b U u1 u0 : Int) (hY : Y = a * 4294967296 + b) (ha : 2147483648 ≤ a) (ha1 : a < 4294967296) (hb0 : 0 ≤ b) (hb : b < 4294967296) (hU0 : 0 ≤ U) (hU : U < Y) (hd0 : 0 ≤ u1) (hd : u1 < 4294967296) :
    ∀ (c k : Nat) (q r : Int), q * a + r = U → 0 ≤ r → r < 4294967296 → 0 ≤ q → q ≤ 4294967297 → (U * 4294967296 + u1) / Y ≤ q → (2 - (c : Int)) * 2147483648 ≤ r → 2 * c + 2 ≤ k →
    ∃ k', k ≤ k' + (2 * c + 2) ∧ bits_Div64.l0 k Y s a b U u1 u0 q r = bits_Div64.j2 k' Y s a b U u1 u0 ((U * 4294967296 + u1) / Y) := by
  have hp : 0 < Y := by omega
  have hqt : 0 ≤ (U * 4294967296 + u1) / Y := Int.ediv_nonneg (by omega) (by omega)
  intro c
  induction c with
  | zero => intro k q r _ _ h1 _ _ _ h2 _; omega
  | succ c ih =>
    intro k q r hq hr0 hr hq0 hq1 hge hc hk
    obtain ⟨k, rfl⟩ : ∃ m, k = m + 2 := ⟨k - 2, by omega⟩
    have key : bits_Div64.l0 (k + 2) Y s a b U u1 u0 q r = bits_Div64.j1 (k + 1) Y s a b U u1 u0 q r (decide (q ≥ 4294967296 ∨ q * b > 4294967296 * r + u1)) := by
      simp only [bits_Div64.l0]
      by_cases h1 : q ≥ 4294967296
      · rw [if_pos h1]; simp [h1]
      · rw [if_neg h1]
        have hs := kn_small q b hq0 (by omega) hb0 hb
        have hs0 : 0 ≤ q * b := Int.mul_nonneg hq0 hb0
        rw [u64w (q * b) hs0 (by omega), u64w (4294967296 * r) (by omega) (by omega), u64w (4294967296 * r + u1) (by omega) (by omega)]
        simp [h1]
    rw [key]
    simp only [bits_Div64.j1]
    by_cases h1 : q ≥ 4294967296 ∨ q * b > 4294967296 * r + u1
    · rw [if_pos (by simpa using h1)]
      have hy := kn_yes U Y a b u1 q r hY hp hU hd hq h1
      have hq' : (q - 1) * a + (r + a) = U := by rw [Int.sub_mul]; omega
      rw [u64w (r + a) (by omega) (by omega), u64w (q - 1) (by omega) (by omega)]
      by_cases h2 : r + a ≥ 4294967296
      · rw [if_pos h2]
        have hs := kn_small (q - 1) b (by omega) (by omega) hb0 hb
        have := kn_no U Y a b u1 (q - 1) (r + a) hY hp hq' hy (by omega)
        exact ⟨k, by omega, by rw [← this]⟩
      · rw [if_neg h2]
        obtain ⟨k', h3, h4⟩ := ih k (q - 1) (r + a) hq' (by omega) (by omega) (by omega) (by omega) hy (by omega) (by omega)
        exact ⟨k', by omega, h4⟩
    · rw [if_neg (by simpa using h1)]
      have := kn_no U Y a b u1 q r hY hp hq hge (by omega)
      exact ⟨k, by omega, by rw [← this]⟩
/-- The second loop. -/
theorem div_l1 (Y s a b U u1 Q X : Int) (hY : Y = a * 4294967296 + b) (ha : 2147483648 ≤ a) (ha1 : a < 4294967296) (hb0 : 0 ≤ b) (hb : b < 4294967296) (hU0 : 0 ≤ U) (hU : U < Y) (hd0 : 0 ≤ u1) (hd : u1 < 4294967296) (hs0 : 0 ≤ s) :
    ∀ (c k : Nat) (q r : Int), q * a + r = U → 0 ≤ r → r < 4294967296 → 0 ≤ q → q ≤ 4294967297 → (U * 4294967296 + u1) / Y ≤ q → (2 - (c : Int)) * 2147483648 ≤ r → 2 * c + 2 ≤ k →
    bits_Div64.l1 k Y s a b u1 Q r X q = (some (IntKind.u64.wrap ((IntKind.u64.wrap (Q * 4294967296)) + ((U * 4294967296 + u1) / Y)), shr .u64 (IntKind.u64.wrap ((IntKind.u64.wrap ((IntKind.u64.wrap (X * 4294967296)) + u1)) - (IntKind.u64.wrap (((U * 4294967296 + u1) / Y) * Y)))) s)) := by
  have hp : 0 < Y := by omega
  have hqt : 0 ≤ (U * 4294967296 + u1) / Y := Int.ediv_nonneg (by omega) (by omega)
  intro c
  induction c with
  | zero => intro k q r _ _ h1 _ _ _ h2 _; omega
  | succ c ih =>
    intro k q r hq hr0 hr hq0 hq1 hge hc hk
    obtain ⟨k, rfl⟩ : ∃ m, k = m + 2 := ⟨k - 2, by omega⟩
    have key : bits_Div64.l1 (k + 2) Y s a b u1 Q r X q = bits_Div64.j4 (k + 1) Y s a b u1 Q r X q (decide (q ≥ 4294967296 ∨ q * b > 4294967296 * r + u1)) := by
      simp only [bits_Div64.l1]
      by_cases h1 : q ≥ 4294967296
      · rw [if_pos h1]; simp [h1]
      · rw [if_neg h1]
        have hs := kn_small q b hq0 (by omega) hb0 hb
        have hqb : 0 ≤ q * b := Int.mul_nonneg hq0 hb0
        rw [u64w (q * b) hqb (by omega), u64w (4294967296 * r) (by omega) (by omega), u64w (4294967296 * r + u1) (by omega) (by omega)]
        simp [h1]
    rw [key]
    simp only [bits_Div64.j4]
    by_cases h1 : q ≥ 4294967296 ∨ q * b > 4294967296 * r + u1
    · rw [if_pos (by simpa using h1)]
      have hy := kn_yes U Y a b u1 q r hY hp hU hd hq h1
      have hq' : (q - 1) * a + (r + a) = U := by rw [Int.sub_mul]; omega
      rw [u64w (r + a) (by omega) (by omega), u64w (q - 1) (by omega) (by omega)]
      by_cases h2 : r + a ≥ 4294967296
      · rw [if_pos h2]
        have hs := kn_small (q - 1) b (by omega) (by omega) hb0 hb
        have := kn_no U Y a b u1 (q - 1) (r + a) hY hp hq' hy (by omega)
        rw [if_pos hs0, ← this]
      · rw [if_neg h2]
        exact ih k (q - 1) (r + a) hq' (by omega) (by omega) (by omega) (by omega) hy (by omega) (by omega)
    · rw [if_neg (by simpa using h1)]
      have := kn_no U Y a b u1 q r hY hp hq hge (by omega)
      rw [if_pos hs0, ← this]
theorem bl_bounds : ∀ (f x : Nat), 0 < x → x < 2 ^ f → 1 ≤ Lib.bitLenAux f x ∧ 2 ^ (Lib.bitLenAux f x - 1) ≤ x ∧ x < 2 ^ Lib.bitLenAux f x := by
  intro f
  induction f with
  | zero => intro x h0 h1; simp at h1; omega
  | succ f ih =>
    intro x h0 h1
    unfold Lib.bitLenAux
    rw [if_neg (by omega)]
    by_cases h2 : x / 2 = 0
    · have : x = 1 := by omega
      subst this
      cases f with
      | zero => simp [Lib.bitLenAux]
      | succ f => simp [Lib.bitLenAux]
    · obtain ⟨a, b, c⟩ := ih (x / 2) (by omega) (by rw [Nat.pow_succ] at h1; omega)
      have e : 2 ^ (1 + Lib.bitLenAux f (x / 2) - 1) = 2 ^ (Lib.bitLenAux f (x / 2) - 1) * 2 := by
        rw [← Nat.pow_succ]; congr 1; omega
      have e2 : 2 ^ (1 + Lib.bitLenAux f (x / 2)) = 2 ^ Lib.bitLenAux f (x / 2) * 2 := by rw [Nat.add_comm, Nat.pow_succ]
      rw [e, e2]
      refine ⟨by omega, by omega, by omega⟩
/-- The shift that brings the first bit to the top. -/
theorem norm_shift (y : Int) (h0 : 0 < y) (h1 : y < 18446744073709551616) : ∃ s : Nat, s ≤ 63 ∧ bits_LeadingZeros64.f y = some (s : Int) ∧ 9223372036854775808 ≤ y * 2 ^ s ∧ y * 2 ^ s < 18446744073709551616 := by
  obtain ⟨n, rfl⟩ := Int.eq_ofNat_of_zero_le (show 0 ≤ y by omega)
  obtain ⟨a, b, c⟩ := bl_bounds 64 n (by omega) (by omega)
  have hle := Lib.bitLen_le n 64 (by decide) (by omega)
  unfold Lib.bitLen at hle
  refine ⟨64 - Lib.bitLenAux 64 n, by omega, ?_, ?_, ?_⟩
  · unfold bits_LeadingZeros64.f bits_Len64.f Lib.bitLen
    rw [if_pos (by omega)]
    simp only [Option.bind_some, Int.toNat_natCast]
    rw [w64 _ (by omega) (by omega)]
    congr 1; omega
  · have e : (2 : Nat) ^ (Lib.bitLenAux 64 n - 1) * 2 ^ (64 - Lib.bitLenAux 64 n) = 9223372036854775808 := by
      rw [← Nat.pow_add]
      have : Lib.bitLenAux 64 n - 1 + (64 - Lib.bitLenAux 64 n) = 63 := by omega
      rw [this]
    have := Nat.mul_le_mul_right (2 ^ (64 - Lib.bitLenAux 64 n)) b
    rw [e] at this
    have h := Int.ofNat_le.mpr this
    rw [Int.natCast_mul, Int.natCast_pow] at h
    exact h
  · have e : (2 : Nat) ^ Lib.bitLenAux 64 n * 2 ^ (64 - Lib.bitLenAux 64 n) = 18446744073709551616 := by
      rw [← Nat.pow_add]
      have : Lib.bitLenAux 64 n + (64 - Lib.bitLenAux 64 n) = 64 := by omega
      rw [this]
    have := Nat.mul_lt_mul_of_pos_right c (Nat.two_pow_pos (64 - Lib.bitLenAux 64 n))
    rw [e] at this
    have h := Int.ofNat_lt.mpr this
    rw [Int.natCast_mul, Int.natCast_pow] at h
    exact h
theorem kn_ge (U Y a b d : Int) (hY : Y = a * 4294967296 + b) (ha : 0 < a) (hb0 : 0 ≤ b) (hU0 : 0 ≤ U) (hd0 : 0 ≤ d) (hd : d < 4294967296) : (U * 4294967296 + d) / Y ≤ U / a := by
  have hp : 0 < Y := by omega
  have h1 := Int.ediv_mul_le (U * 4294967296 + d) (show Y ≠ 0 by omega)
  have h0 : 0 ≤ (U * 4294967296 + d) / Y := Int.ediv_nonneg (by omega) (by omega)
  generalize (U * 4294967296 + d) / Y = q at *
  refine Int.le_ediv_of_mul_le ha ?_
  rw [hY, Int.mul_add, ← Int.mul_assoc] at h1
  have h2 : 0 ≤ q * b := Int.mul_nonneg h0 hb0
  generalize q * a = qa at *
  generalize q * b = qb at *
  omega
theorem and32 (x : Int) (h0 : 0 ≤ x) (h1 : x < 18446744073709551616) : Go.bits .and .u64 x 4294967295 = x % 4294967296 := by
  have := bits_mask .u64 64 (by decide) (fun n a b => u64w n a (by simpa using b)) 32 (by decide) x h0 (by simpa using h1)
  simpa using this
theorem Div64_big (hi lo y : Int) (h0 : 0 < hi) (h1 : hi < y) (h2 : y < 18446744073709551616) (l0 : 0 ≤ lo) (l1 : lo < 18446744073709551616) (k : Nat) (hk : 20 ≤ k) :
    bits_Div64.f k hi lo y = some ((hi * 18446744073709551616 + lo) / y, (hi * 18446744073709551616 + lo) % y) := by
  obtain ⟨s, hs, hz, hn0, hn1⟩ := norm_shift y (by omega) h2
  unfold bits_Div64.f
  rw [if_neg (by omega), if_neg (by omega), if_neg (by omega), hz]
  simp only [Option.bind_some]
  rw [u64w (s : Int) (by omega) (by omega), if_pos (by omega), u64w (64 - (s : Int)) (by omega) (by omega), if_pos (by omega)]
  -- p: the shift as a factor; g: what is left of 2^64
  obtain ⟨p, hp⟩ : ∃ p : Int, p = 2 ^ s := ⟨_, rfl⟩
  obtain ⟨g, hg⟩ : ∃ g : Int, g = 2 ^ (64 - s) := ⟨_, rfl⟩
  have hp0 : 0 < p := by rw [hp]; exact_mod_cast Nat.two_pow_pos s
  have hg0 : 0 < g := by rw [hg]; exact_mod_cast Nat.two_pow_pos (64 - s)
  have hgp : g * p = 18446744073709551616 := by
    rw [hg, hp, ← Int.pow_add]
    have : 64 - s + s = 64 := by omega
    rw [this]; rfl
  have sl : ∀ x : Int, shl .u64 x (s : Int) = (x * p) % 18446744073709551616 := by
    intro x; unfold shl; rw [Int.toNat_natCast, Nat.min_eq_left (by simp [IntKind.bits]; omega), u64m, hp]
  have sr : shr .u64 lo (64 - (s : Int)) = lo / g := by
    unfold shr
    have e : (64 - (s : Int)).toNat = 64 - s := by omega
    rw [e, Nat.min_eq_left (by simp [IntKind.bits]), hg]
  rw [← hp] at hn0 hn1
  have hY : shl .u64 y (s : Int) = y * p := by rw [sl]; omega
  have hhp : hi * p < y * p := Int.mul_lt_mul_of_pos_right h1 hp0
  have hhp0 : 0 ≤ hi * p := Int.mul_nonneg (by omega) (by omega)
  have hH : shl .u64 hi (s : Int) = hi * p := by rw [sl]; omega
  have q0 : 0 ≤ lo / g := Int.ediv_nonneg l0 (by omega)
  have q1 : lo / g < p := Int.ediv_lt_of_lt_mul hg0 (by rw [Int.mul_comm p g, hgp]; exact l1)
  have hor : Go.bits .or .u64 (hi * p) (lo / g) = hi * p + lo / g := by
    refine bits_join .u64 64 (by decide) (fun n a b => u64w n a (by simpa using b)) s (hi * p) (lo / g) hhp0 ?_ (by simp; omega) q0 (by rw [← hp]; exact q1) ?_
    · rw [← hp]; exact Int.mul_emod_left _ _
    · have : p ≤ y * p := by
        have := Int.mul_le_mul_of_nonneg_right (show (1 : Int) ≤ y by omega) (show 0 ≤ p by omega)
        omega
      simp; omega
  have hlo : lo * p = lo / g * 18446744073709551616 + lo % g * p := by
    have e1 := Int.mul_ediv_add_emod lo g
    have e2 : lo * p = (g * (lo / g) + lo % g) * p := by rw [e1]
    rw [e2, Int.add_mul, Int.mul_comm g (lo / g), Int.mul_assoc, hgp]
  have m0 : 0 ≤ lo % g := Int.emod_nonneg _ (by omega)
  have m1 : lo % g < g := Int.emod_lt_of_pos _ hg0
  have mp0 : 0 ≤ lo % g * p := Int.mul_nonneg m0 (by omega)
  have mp1 : lo % g * p < 18446744073709551616 := by rw [← hgp]; exact Int.mul_lt_mul_of_pos_right m1 hp0
  have hL : shl .u64 lo (s : Int) = lo % g * p := by rw [sl]; omega
  have hUY : hi * p + lo / g < y * p := by
    have e := Int.mul_le_mul_of_nonneg_right (show hi + 1 ≤ y by omega) (show 0 ≤ p by omega)
    rw [Int.add_mul, Int.one_mul] at e
    omega
  -- the whole number, moved
  have hN : (hi * 18446744073709551616 + lo) * p = (hi * p + lo / g) * 18446744073709551616 + lo % g * p := by
    rw [Int.add_mul, hlo, Int.add_mul (hi * p), Int.mul_right_comm]; omega
  have hyp : y * p = y * p / 4294967296 * 4294967296 + y * p % 4294967296 := by omega
  rw [hY, hH, sr, hor, hL, and32 (y * p) (by omega) hn1, and32 (lo % g * p) mp0 mp1]
  have hyp0 : 0 < y * p := by omega
  generalize hUe : hi * p + lo / g = U at *
  generalize hLe : lo % g * p = L at *
  generalize hYe : y * p = Y at *
  have hU0 : 0 ≤ U := by omega
  rw [if_neg (by omega), Int.tdiv_eq_ediv_of_nonneg hU0]
  generalize hae : Y / 4294967296 = a at *
  generalize hbe : Y % 4294967296 = b at *
  have ha : 2147483648 ≤ a := by omega
  have ha1 : a < 4294967296 := by omega
  have hb0 : 0 ≤ b := by omega
  have hb : b < 4294967296 := by omega
  have hUa := kn_first U a b ha hb (by omega)
  have hUa0 : 0 ≤ U / a := Int.ediv_nonneg hU0 (by omega)
  have hr : U / a * a + U % a = U := by rw [Int.mul_comm]; exact Int.mul_ediv_add_emod U a
  have hr0 : 0 ≤ U % a := Int.emod_nonneg _ (by omega)
  have hr1 : U % a < a := Int.emod_lt_of_pos _ (by omega)
  have hqa : 0 ≤ U / a * a := Int.mul_nonneg hUa0 (by omega)
  have er : IntKind.u64.wrap (U - IntKind.u64.wrap (IntKind.u64.wrap (U / a) * a)) = U % a := by
    rw [u64w (U / a) hUa0 (by omega), u64w (U / a * a) hqa (by omega), u64w _ (by omega) (by omega)]; omega
  rw [er, u64w (U / a) hUa0 (by omega)]
  have hu1 : 0 ≤ L / 4294967296 := by omega
  have hu1' : L / 4294967296 < 4294967296 := by omega
  have hu0 : 0 ≤ L % 4294967296 := by omega
  have hu0' : L % 4294967296 < 4294967296 := by omega
  obtain ⟨k', hk', e0⟩ := div_l0 Y s a b U (L / 4294967296) (L % 4294967296) hyp ha ha1 hb0 hb hU0 hUY hu1 hu1' 2 k (U / a) (U % a) hr hr0 (by omega) hUa0 hUa
    (kn_ge U Y a b _ hyp (by omega) hb0 hU0 hu1 hu1') (by omega) (by omega)
  rw [e0]
  obtain ⟨k', rfl⟩ : ∃ m, k' = m + 1 := ⟨k' - 1, by omega⟩
  have qlt := kn_lt U Y (L / 4294967296) hUY hu1' hyp0
  have qge : 0 ≤ (U * 4294967296 + L / 4294967296) / Y := Int.ediv_nonneg (by omega) (by omega)
  have R0 := Int.emod_nonneg (U * 4294967296 + L / 4294967296) (show Y ≠ 0 by omega)
  have R1 := Int.emod_lt_of_pos (U * 4294967296 + L / 4294967296) hyp0
  have RE := Int.mul_ediv_add_emod (U * 4294967296 + L / 4294967296) Y
  rw [Int.mul_comm] at RE
  simp only [bits_Div64.j2]
  rw [if_neg (by omega)]
  generalize (U * 4294967296 + L / 4294967296) / Y = Q1 at *
  generalize (U * 4294967296 + L / 4294967296) % Y = R at *
  have eR : IntKind.u64.wrap (IntKind.u64.wrap (IntKind.u64.wrap (U * 4294967296) + L / 4294967296) - IntKind.u64.wrap (Q1 * Y)) = R := by
    simp only [u64m]; omega
  rw [eR, Int.tdiv_eq_ediv_of_nonneg R0]
  have hRa := kn_first R a b ha hb (by omega)
  have hRa0 : 0 ≤ R / a := Int.ediv_nonneg R0 (by omega)
  have hs' : R / a * a + R % a = R := by rw [Int.mul_comm]; exact Int.mul_ediv_add_emod R a
  have hs0 : 0 ≤ R % a := Int.emod_nonneg _ (by omega)
  have hs1 : R % a < a := Int.emod_lt_of_pos _ (by omega)
  have hqa' : 0 ≤ R / a * a := Int.mul_nonneg hRa0 (by omega)
  have es : IntKind.u64.wrap (R - IntKind.u64.wrap (IntKind.u64.wrap (R / a) * a)) = R % a := by
    rw [u64w (R / a) hRa0 (by omega), u64w (R / a * a) hqa' (by omega), u64w _ (by omega) (by omega)]; omega
  rw [es, u64w (R / a) hRa0 (by omega)]
  rw [div_l1 Y s a b R (L % 4294967296) Q1 R hyp ha ha1 hb0 hb R0 R1 hu0 hu0' (by omega) 2 k' (R / a) (R % a) hs' hs0 (by omega) hRa0 hRa
    (kn_ge R Y a b _ hyp (by omega) hb0 R0 hu0 hu0') (by omega) (by omega)]
  have plt := kn_lt R Y (L % 4294967296) R1 hu0' hyp0
  have pge : 0 ≤ (R * 4294967296 + L % 4294967296) / Y := Int.ediv_nonneg (by omega) (by omega)
  have S0 := Int.emod_nonneg (R * 4294967296 + L % 4294967296) (show Y ≠ 0 by omega)
  have S1 := Int.emod_lt_of_pos (R * 4294967296 + L % 4294967296) hyp0
  have SE := Int.mul_ediv_add_emod (R * 4294967296 + L % 4294967296) Y
  rw [Int.mul_comm] at SE
  generalize (R * 4294967296 + L % 4294967296) / Y = Q0 at *
  generalize (R * 4294967296 + L % 4294967296) % Y = S at *
  have eS : IntKind.u64.wrap (IntKind.u64.wrap (IntKind.u64.wrap (R * 4294967296) + L % 4294967296) - IntKind.u64.wrap (Q0 * Y)) = S := by
    simp only [u64m]; omega
  have eQ : IntKind.u64.wrap (IntKind.u64.wrap (Q1 * 4294967296) + Q0) = Q1 * 4294967296 + Q0 := by
    rw [u64w (Q1 * 4294967296) (by omega) (by omega), u64w _ (by omega) (by omega)]
  have sS : shr .u64 S (s : Int) = S / p := by
    unfold shr; rw [Int.toNat_natCast, Nat.min_eq_left (by simp [IntKind.bits]; omega), hp]
  rw [eS, eQ, sS]
  -- N * p = (Q1 * 2^32 + Q0) * Y + S
  have hT : (hi * 18446744073709551616 + lo) * p = (Q1 * 4294967296 + Q0) * Y + S := by
    rw [hN, Int.add_mul, Int.mul_right_comm]
    generalize Q1 * Y = A1 at *
    generalize Q0 * Y = A0 at *
    omega
  generalize hi * 18446744073709551616 + lo = N at *
  generalize Q1 * 4294967296 + Q0 = Q at *
  have hS : S = (N - Q * y) * p := by
    rw [Int.sub_mul, Int.mul_assoc, hYe, hT]; omega
  have hT0 : 0 ≤ N - Q * y := by
    rcases Int.lt_or_le (N - Q * y) 0 with h | h
    · have := Int.mul_lt_mul_of_pos_right h hp0
      omega
    · exact h
  have hT1 : N - Q * y < y := by
    rcases Int.lt_or_le (N - Q * y) y with h | h
    · exact h
    · have := Int.mul_le_mul_of_nonneg_right h (show 0 ≤ p by omega)
      omega
  have hdiv : S / p = N - Q * y := by rw [hS]; exact Int.mul_ediv_cancel _ (by omega)
  have hy0 : 0 < y := by omega
  have e1 : N = (N - Q * y) + y * Q := by rw [Int.mul_comm y Q]; omega
  have hq : N / y = Q := by
    rw [e1, Int.add_mul_ediv_left _ _ (by omega), Int.ediv_eq_zero_of_lt hT0 hT1, Int.zero_add]
  have hm : N % y = N - Q * y := by
    have := Int.mul_ediv_add_emod N y
    rw [hq, Int.mul_comm] at this
    omega
  rw [hdiv, hq, hm]

theorem Div64_f (hi lo y : Int) (h0 : 0 ≤ hi) (h1 : hi < y) (h2 : y < 18446744073709551616) (l0 : 0 ≤ lo) (l1 : lo < 18446744073709551616) (k : Nat) (hk : 20 ≤ k) :
    bits_Div64.f k hi lo y = some ((hi * 18446744073709551616 + lo) / y, (hi * 18446744073709551616 + lo) % y) := by
  rcases Int.lt_or_le 0 hi with h | h
  · exact Div64_big hi lo y h h1 h2 l0 l1 k hk
  · obtain rfl : hi = 0 := by omega
    unfold bits_Div64.f
    rw [if_neg (by omega), if_neg (by omega), if_pos rfl, Int.tdiv_eq_ediv_of_nonneg l0, Int.tmod_eq_emod_of_nonneg l0]
    have e : (0 : Int) * 18446744073709551616 + lo = lo := by omega
    have d0 : 0 ≤ lo / y := Int.ediv_nonneg l0 (by omega)
    have d1 : lo / y ≤ lo := Int.ediv_le_self _ l0
    rw [e, u64w (lo / y) d0 (by omega)]
theorem Mul64_f (x y : Int) (x0 : 0 ≤ x) (x1 : x < 18446744073709551616) (y0 : 0 ≤ y) (y1 : y < 18446744073709551616) :
    bits_Mul64.f x y = some (x * y / 18446744073709551616, x * y % 18446744073709551616) := by
  obtain ⟨m, rfl⟩ := Int.eq_ofNat_of_zero_le x0
  obtain ⟨n, rfl⟩ := Int.eq_ofNat_of_zero_le y0
  obtain ⟨a1, a2, a3, a4⟩ := Lib.mul64_hi m n (by omega) (by omega)
  have hb := Lib.half_mul_le (a := m / 4294967296) (b := n / 4294967296) (by omega) (by omega)
  have hc := Lib.half_mul_le (a := m % 4294967296) (b := n / 4294967296) (by omega) (by omega)
  have hd := Lib.half_mul_le (a := m / 4294967296) (b := n % 4294967296) (by omega) (by omega)
  unfold bits_Mul64.f
  rw [and32 (m : Int) x0 x1, and32 (n : Int) y0 y1, and32 (IntKind.u64.wrap _) (u64_lo _) (u64_hi _), u64m ((m : Int) * n)]
  have c1 : (m : Int) / 4294967296 * ((n : Int) / 4294967296) = ((m / 4294967296 * (n / 4294967296) : Nat) : Int) := by simp
  have c2 : (m : Int) / 4294967296 * ((n : Int) % 4294967296) = ((m / 4294967296 * (n % 4294967296) : Nat) : Int) := by simp
  have c3 : (m : Int) % 4294967296 * ((n : Int) / 4294967296) = ((m % 4294967296 * (n / 4294967296) : Nat) : Int) := by simp
  have c4 : (m : Int) % 4294967296 * ((n : Int) % 4294967296) = ((m % 4294967296 * (n % 4294967296) : Nat) : Int) := by simp
  have c5 : (m : Int) * (n : Int) = ((m * n : Nat) : Int) := by simp
  rw [c1, c2, c3, c4, c5]
  generalize m / 4294967296 * (n / 4294967296) = P at *
  generalize m / 4294967296 * (n % 4294967296) = Q at *
  generalize m % 4294967296 * (n / 4294967296) = R at *
  generalize m % 4294967296 * (n % 4294967296) = S at *
  generalize m * n = T at *
  congr 1
  congr 1
  simp only [u64m]
  omega

-- PowMod
theorem and1 (x : Int) (h0 : 0 ≤ x) (h1 : x < 18446744073709551616) : Go.bits .and .u64 x 1 = x % 2 := by
  have := bits_mask .u64 64 (by decide) (fun n a b => u64w n a (by simpa using b)) 1 (by decide) x h0 (by simpa using h1)
  simpa using this
/-- x^n (rests of m), squaring. -/
def pw (m : Int) : Nat → Int → Int → Int → Int
  | 0, _, _, y => y
  | d + 1, x, n, y => if n = 0 then y else pw m d (x * x % m) (n / 2) (if n % 2 = 1 then y * x % m else y)
def powmod (x n m : Int) : Int := if m < 2 then 0 else pw m 64 (x % m) n 1
theorem pm_mul_f (a b m : Int) (hm : 2 ≤ m) (hm1 : m < 18446744073709551616) (a0 : 0 ≤ a) (a1 : a < m) (b0 : 0 ≤ b) (b1 : b < m) (k : Nat) (hk : 20 ≤ k) : pm_mul k a b m = some (a * b % m) := by
  have z0 : 0 ≤ a * b := Int.mul_nonneg a0 b0
  have hq : a * b / 18446744073709551616 < m := by
    refine Int.ediv_lt_of_lt_mul (by omega) ?_
    have := Int.mul_le_mul (show a ≤ m - 1 by omega) (show b ≤ 18446744073709551616 by omega) b0 (by omega)
    omega
  unfold pm_mul
  rw [Mul64_f a b a0 (by omega) b0 (by omega)]
  simp only [Option.bind_some]
  rw [Div64_f _ _ m (by omega) hq hm1 (by omega) (by omega) k hk]
  simp only [Option.bind_some]
  have : a * b / 18446744073709551616 * 18446744073709551616 + a * b % 18446744073709551616 = a * b := by omega
  rw [this]
theorem pw_zero (m : Int) : ∀ (d : Nat) (x y : Int), pw m d x 0 y = y
  | 0, _, _ => rfl
  | d + 1, x, y => by simp [pw]
theorem impl_pw (m : Int) (hm : 2 ≤ m) (hm1 : m < 18446744073709551616) : ∀ (d k : Nat) (x n y : Int), 0 ≤ x → x < m → 0 ≤ y → y < m → 0 ≤ n → n < 2 ^ d → d ≤ 64 → d + 22 ≤ k → impl_PowMod.l0 k m x n y = some (pw m d x n y) := by
  intro d
  induction d with
  | zero =>
    intro k x n y _ _ _ _ n0 n1 _ hk
    obtain ⟨k, rfl⟩ : ∃ j, k = j + 1 := ⟨k - 1, by omega⟩
    simp only [impl_PowMod.l0]
    rw [if_neg (by simp at n1; omega)]; rfl
  | succ d ih =>
    intro k x n y x0 x1 y0 y1 n0 n1 hd hk
    obtain ⟨k, rfl⟩ : ∃ j, k = j + 1 := ⟨k - 1, by omega⟩
    have n2 : n < 18446744073709551616 := by
      have : (2 : Int) ^ (d + 1) ≤ 2 ^ 64 := by exact_mod_cast Nat.pow_le_pow_right (by decide : 0 < 2) hd
      have e : (2 : Int) ^ 64 = 18446744073709551616 := by rfl
      omega
    have n3 : n / 2 < 2 ^ d := by
      rw [Int.pow_succ] at n1
      omega
    simp only [impl_PowMod.l0, pw]
    by_cases h : n > 0
    · rw [if_pos h, if_neg (show ¬ n = 0 by omega), and1 n n0 n2, pm_mul_f x x m hm hm1 x0 x1 x0 x1 k (by omega), pm_mul_f y x m hm hm1 y0 y1 x0 x1 k (by omega)]
      simp only [Option.bind_some]
      have xx0 := Int.emod_nonneg (x * x) (show m ≠ 0 by omega)
      have xx1 := Int.emod_lt_of_pos (x * x) (show 0 < m by omega)
      have yx0 := Int.emod_nonneg (y * x) (show m ≠ 0 by omega)
      have yx1 := Int.emod_lt_of_pos (y * x) (show 0 < m by omega)
      by_cases h2 : n % 2 = 1
      · rw [if_pos h2, if_pos h2]
        exact ih k _ _ _ xx0 xx1 yx0 yx1 (by omega) n3 (by omega) (by omega)
      · rw [if_neg h2, if_neg h2]
        exact ih k _ _ _ xx0 xx1 y0 y1 (by omega) n3 (by omega) (by omega)
    · rw [if_neg h, if_pos (by omega)]
theorem impl_PowMod_f (x n m : Int) (x0 : 0 ≤ x) (n0 : 0 ≤ n) (n1 : n < 18446744073709551616) (m1 : m < 18446744073709551616) (k : Nat) (hk : 100 ≤ k) : impl_PowMod.f k x n m = some (powmod x n m) := by
  unfold impl_PowMod.f powmod
  by_cases h : m < 2
  · rw [if_pos h, if_pos h]
  · rw [if_neg h, if_neg h, Int.tmod_eq_emod_of_nonneg x0]
    exact impl_pw m (by omega) m1 64 k (x % m) n 1 (Int.emod_nonneg _ (by omega)) (Int.emod_lt_of_pos _ (by omega)) (by omega) (by omega) n0 (by simpa using n1) (by omega) (by omega)

-- PowModSpec
theorem l15Add_f (a b m : Int) (a0 : 0 ≤ a) (a1 : a < m) (b0 : 0 ≤ b) (b1 : b < m) (m1 : m < 18446744073709551616) : spec_l15Add.f a b m = some ((a + b) % m) := by
  unfold spec_l15Add.f
  rw [u64w (m - b) (by omega) (by omega)]
  by_cases h : a ≥ m - b
  · rw [if_pos h, u64w (a - (m - b)) (by omega) (by omega)]
    have e : a - (m - b) = (a + b) - m := by omega
    rw [e, ← Int.emod_eq_of_lt (show 0 ≤ a + b - m by omega) (show a + b - m < m by omega), Int.sub_emod_right]
  · rw [if_neg h, u64w (a + b) (by omega) (by omega), Int.emod_eq_of_lt (by omega) (by omega)]
theorem times_step (a b m o : Int) : ((o + (b % 2) * a) % m + (a + a) % m * (b / 2)) % m = (o + a * b) % m := by
  rw [Int.add_emod, Int.emod_emod, Int.mul_emod, Int.emod_emod, ← Int.mul_emod, ← Int.add_emod]
  congr 1
  have e : b = b % 2 + 2 * (b / 2) := by omega
  have : a * b = a * (b % 2) + (a + a) * (b / 2) := by
    calc a * b = a * (b % 2 + 2 * (b / 2)) := by rw [← e]
      _ = a * (b % 2) + (a + a) * (b / 2) := by rw [Int.mul_add, ← Int.mul_assoc, Int.mul_comm a 2]; congr 2; omega
  rw [this, Int.mul_comm a (b % 2)]; omega
theorem l15Times_loop (m : Int) (hm : 2 ≤ m) (hm1 : m < 18446744073709551616) : ∀ (d k : Nat) (a b o : Int), 0 ≤ a → a < m → 0 ≤ o → o < m → 0 ≤ b → b < 2 ^ d → d ≤ 64 → d < k → spec_l15Times.l0 k a b m o = some ((o + a * b) % m) := by
  intro d
  induction d with
  | zero =>
    intro k a b o _ _ o0 o1 b0 b1 _ hk
    obtain ⟨k, rfl⟩ : ∃ j, k = j + 1 := ⟨k - 1, by omega⟩
    obtain rfl : b = 0 := by simp at b1; omega
    simp only [spec_l15Times.l0]
    rw [if_neg (by omega), Int.mul_zero, Int.add_zero, Int.emod_eq_of_lt o0 o1]
  | succ d ih =>
    intro k a b o a0 a1 o0 o1 b0 b1 hd hk
    obtain ⟨k, rfl⟩ : ∃ j, k = j + 1 := ⟨k - 1, by omega⟩
    have b2 : b < 18446744073709551616 := by
      have : (2 : Int) ^ (d + 1) ≤ 2 ^ 64 := by exact_mod_cast Nat.pow_le_pow_right (by decide : 0 < 2) hd
      have e : (2 : Int) ^ 64 = 18446744073709551616 := by rfl
      omega
    have b3 : b / 2 < 2 ^ d := by
      rw [Int.pow_succ] at b1
      omega
    simp only [spec_l15Times.l0]
    by_cases h : b > 0
    · rw [if_pos h, Int.tmod_eq_emod_of_nonneg b0, Int.tdiv_eq_ediv_of_nonneg b0, u64w (b / 2) (by omega) (by omega), l15Add_f a a m a0 a1 a0 a1 hm1, l15Add_f o a m o0 o1 a0 a1 hm1]
      simp only [Option.bind_some]
      have s0 := Int.emod_nonneg (a + a) (show m ≠ 0 by omega)
      have s1 := Int.emod_lt_of_pos (a + a) (show 0 < m by omega)
      have t0 := Int.emod_nonneg (o + a) (show m ≠ 0 by omega)
      have t1 := Int.emod_lt_of_pos (o + a) (show 0 < m by omega)
      have st := times_step a b m o
      by_cases h2 : b % 2 = 1
      · rw [if_pos h2, ih k _ _ _ s0 s1 t0 t1 (by omega) b3 (by omega) (by omega)]
        rw [h2, Int.one_mul] at st
        rw [st]
      · rw [if_neg h2, ih k _ _ _ s0 s1 o0 o1 (by omega) b3 (by omega) (by omega)]
        have h3 : b % 2 = 0 := by omega
        rw [h3, Int.zero_mul, Int.add_zero, Int.emod_eq_of_lt o0 o1] at st
        rw [st]
    · rw [if_neg h]
      obtain rfl : b = 0 := by omega
      rw [Int.mul_zero, Int.add_zero, Int.emod_eq_of_lt o0 o1]
theorem l15Times_f (a b m : Int) (hm : 2 ≤ m) (hm1 : m < 18446744073709551616) (a0 : 0 ≤ a) (a1 : a < m) (b0 : 0 ≤ b) (b1 : b < m) (k : Nat) (hk : 65 ≤ k) : spec_l15Times.f k a b m = some (a * b % m) := by
  unfold spec_l15Times.f
  rw [if_neg (by omega), Int.tmod_eq_emod_of_nonneg a0, Int.emod_eq_of_lt a0 a1, l15Times_loop m hm hm1 64 k a b 0 a0 a1 (by omega) (by omega) b0 (by
    have e : (2 : Int) ^ 64 = 18446744073709551616 := by rfl
    omega) (by omega) (by omega), Int.zero_add]
theorem spec_pw (m : Int) (hm : 2 ≤ m) (hm1 : m < 18446744073709551616) : ∀ (d k : Nat) (x n y : Int), 0 ≤ x → x < m → 0 ≤ y → y < m → 0 ≤ n → n < 2 ^ d → d ≤ 64 → d + 67 ≤ k → spec_PowMod.l0 k x n m y = some (pw m d x n y) := by
  intro d
  induction d with
  | zero =>
    intro k x n y _ _ _ _ n0 n1 _ hk
    obtain ⟨k, rfl⟩ : ∃ j, k = j + 1 := ⟨k - 1, by omega⟩
    simp only [spec_PowMod.l0]
    rw [if_neg (by simp at n1; omega)]; rfl
  | succ d ih =>
    intro k x n y x0 x1 y0 y1 n0 n1 hd hk
    obtain ⟨k, rfl⟩ : ∃ j, k = j + 1 := ⟨k - 1, by omega⟩
    have n2 : n < 18446744073709551616 := by
      have : (2 : Int) ^ (d + 1) ≤ 2 ^ 64 := by exact_mod_cast Nat.pow_le_pow_right (by decide : 0 < 2) hd
      have e : (2 : Int) ^ 64 = 18446744073709551616 := by rfl
      omega
    have n3 : n / 2 < 2 ^ d := by
      rw [Int.pow_succ] at n1
      omega
    simp only [spec_PowMod.l0, pw]
    by_cases h : n > 0
    · rw [if_pos h, if_neg (show ¬ n = 0 by omega), Int.tmod_eq_emod_of_nonneg n0, Int.tdiv_eq_ediv_of_nonneg n0, u64w (n / 2) (by omega) (by omega),
        l15Times_f x x m hm hm1 x0 x1 x0 x1 k (by omega), l15Times_f y x m hm hm1 y0 y1 x0 x1 k (by omega)]
      simp only [Option.bind_some]
      have xx0 := Int.emod_nonneg (x * x) (show m ≠ 0 by omega)
      have xx1 := Int.emod_lt_of_pos (x * x) (show 0 < m by omega)
      have yx0 := Int.emod_nonneg (y * x) (show m ≠ 0 by omega)
      have yx1 := Int.emod_lt_of_pos (y * x) (show 0 < m by omega)
      by_cases h2 : n % 2 = 1
      · rw [if_pos h2, if_pos h2]
        exact ih k _ _ _ xx0 xx1 yx0 yx1 (by omega) n3 (by omega) (by omega)
      · rw [if_neg h2, if_neg h2]
        exact ih k _ _ _ xx0 xx1 y0 y1 (by omega) n3 (by omega) (by omega)
    · rw [if_neg h, if_pos (by omega)]
theorem spec_PowMod_f (x n m : Int) (x0 : 0 ≤ x) (n0 : 0 ≤ n) (n1 : n < 18446744073709551616) (m1 : m < 18446744073709551616) (k : Nat) (hk : 140 ≤ k) : spec_PowMod.f k x n m = some (powmod x n m) := by
  unfold spec_PowMod.f powmod
  by_cases h : m < 2
  · rw [if_pos h, if_pos h]
  · rw [if_neg h, if_neg h, if_neg (by omega), Int.tmod_eq_emod_of_nonneg x0]
    exact spec_pw m (by omega) m1 64 k (x % m) n 1 (Int.emod_nonneg _ (by omega)) (Int.emod_lt_of_pos _ (by omega)) (by omega) (by omega) n0 (by simpa using n1) (by omega) (by omega)

theorem FnExactSign : laws_FnExactSign.Pure := by
  intro n e d l wn we wd ws
  obtain ⟨n0, n1⟩ := u64_wf n wn
  obtain ⟨d0, d1⟩ := u64_wf d wd
  refine ⟨l.length + 200, ?_⟩
  unfold laws_FnExactSign.f
  by_cases hl : (l.length : Int) > 1048576
  · rw [if_pos hl]
  · rw [if_neg hl]
    have hx : l.length ≤ 140737488355328 := by omega
    obtain ⟨r, hr0, hr9, hr⟩ := Sum_f l hx
    obtain ⟨hr1, hr2⟩ := hr (l.length + 200) (by omega)
    have hb : ∃ b, spec_Sign.f (l.length + 200) n e d l = some b ∧ impl_Sign.f (l.length + 200) n e d l = some b := by
      unfold spec_Sign.f impl_Sign.f
      rw [hr1, hr2]
      simp only [Option.bind_some]
      by_cases h1 : n = 0
      · rw [if_pos h1, if_pos h1]; exact ⟨_, rfl, rfl⟩
      · rw [if_neg h1, if_neg h1]
        have t0 : 0 ≤ Int.tmod r n := Int.tmod_nonneg _ (by omega)
        rw [spec_PowMod_f (Int.tmod r n) d n t0 d0 d1 n1 _ (by omega), impl_PowMod_f (Int.tmod r n) d n t0 d0 d1 n1 _ (by omega)]
        exact ⟨_, rfl, rfl⟩
    obtain ⟨b, h1, h2⟩ := hb
    unfold laws_toKey.f
    simp only [Option.bind_some]
    rw [toByteS_f l hx _ (by omega)]
    simp only [Option.bind_some]
    rw [h1, h2]
    simp only [Option.bind_some, if_true]
    rw [eqByteS_f l hx _ (by omega)]
    simp

end Go.Proofs.Ytkijlpiiiejjkaa.Pure
