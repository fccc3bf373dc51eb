/- The pure statement of FnExactPlain: both tell a condition's plain form. -/
import Derived.Test.YtoipkndeeeolcaaPFnExactPlainx0
import Derived.Test.YtoipkndeeeolcaaPFnExactPlainx1
import Derived.Test.YtoipkndeeeolcaaPFnExactPlainx2
import Derived.Test.YtoipkndeeeolcaaPFnExactPlainx3
import Derived.Test.YtoipkndeeeolcaaPFnExactPlainx4
import Derived.Test.YtoipkndeeeolcaaPFnExactPlainx5
import Derived.Test.YtoipkndeeeolcaaPFnExactPlainx6
import Derived.Test.YtoipkndeeeolcaaPFnExactPlainx7
import Derived.Test.YtoipkndeeeolcaaPFnExactPlainx8
import Derived.Test.YtoipkndeeeolcaaPFnExactPlainx9
import Derived.Laws.BitsLemmas
import Derived.Laws.Bits64b
import Derived.Lib.Bytealg
namespace Go.Proofs.Ytoipkndeeeolcaa.Pure
open Go.RowKit Go.Proofs.YtoipkndeeeolcaaW.PrintWords Go.Proofs.YtoipkndeeeolcaaW.PrintLast Go.Proofs.YtoipkndeeeolcaaW.PrintMore Go.Proofs.Ytoipkndeeeolcaa.PFnExactPlain

theorem u64w (n : Int) (h0 : 0 ≤ n) (h1 : n < 18446744073709551616) : IntKind.u64.wrap n = n := by
  simp [IntKind.wrap, IntKind.signed, IntKind.bits]; omega
theorem i64w (n : Int) (h0 : -9223372036854775808 ≤ n) (h1 : n < 9223372036854775808) : IntKind.i64.wrap n = n := by
  rw [IntKind.wrap_i64]; omega
theorem w64 (n : Int) (h0 : -9223372036854775808 ≤ n) (h1 : n < 9223372036854775808) : wrap64 n = n := by unfold wrap64; omega
theorem up1 (i : Int) (h0 : 0 ≤ i) (h : i < 9223372036854775807) : wrap64 (i + 1) = i + 1 := by unfold wrap64; omega
theorem u64_lo (n : Int) : 0 ≤ IntKind.u64.wrap n := by simp [IntKind.wrap, IntKind.signed, IntKind.bits]; omega
theorem u64_hi (n : Int) : IntKind.u64.wrap n < 18446744073709551616 := by simp [IntKind.wrap, IntKind.signed, IntKind.bits]; omega
theorem u64_wf (x : Int) (h : (Lit.int .u64 x).wf = true) : 0 ≤ x ∧ x < 18446744073709551616 := by
  simp [Lit.wf, IntKind.min, IntKind.max, IntKind.signed, IntKind.bits] at h; omega
theorem and31 (x : Int) (h0 : 0 ≤ x) (h1 : x < 18446744073709551616) : Go.bits .and .u64 x 31 = x % 32 := by
  have := bits_mask .u64 64 (by decide) (fun n a b => u64w n a (by simpa using b)) 5 (by decide) x h0 (by simpa using h1)
  simpa using this
theorem or5 (a c : Int) (h0 : 0 ≤ a) (h1 : a * 32 < 18446744073709551616) (hc0 : 0 ≤ c) (hc : c < 32) : Go.bits .or .u64 (a * 32) c = a * 32 + c := by
  have := bits_join .u64 64 (by decide) (fun n x y => u64w n x (by simpa using y)) 5 (a * 32) c (by omega) (by omega) (by simpa using h1) hc0 (by simpa using hc) (by simp; omega)
  exact this
theorem bt_list (l : List UInt8) (i : Int) : bt ⟨l.toArray⟩ i = ((l.getD i.toNat 0).toNat : Int) := by
  unfold bt
  split
  · rename_i h
    have h' : i.toNat < l.length := by simpa [ByteArray.size] using h
    rw [List.getD_eq_getElem?_getD, List.getElem?_eq_getElem h']
    rfl
  · rename_i h
    have h' : l.length ≤ i.toNat := by simpa [ByteArray.size] using h
    rw [List.getD_eq_getElem?_getD, List.getElem?_eq_none h']; rfl
/-- The alphabet of chapter 1. -/
def alpha : ByteArray := ⟨#[48, 49, 50, 51, 52, 53, 54, 55, 56, 57, 97, 98, 99, 100, 102, 103, 104, 105, 106, 107, 108, 109, 110, 112, 113, 114, 115, 118, 119, 120, 121, 122]⟩
/-- The n-th digit from the right, as its byte. -/
def dg (x : Int) (n : Nat) : Int := bt alpha (x / 2 ^ (5 * n) % 32)
/-- The last n digits. -/
def ds (x : Int) : Nat → List Int
  | 0 => []
  | n + 1 => dg x n :: ds x n
theorem ds_length (x : Int) : ∀ n, (ds x n).length = n
  | 0 => rfl
  | n + 1 => by simp [ds, ds_length x n]
/-- The thirteen bytes. -/
def word (x : Int) : ByteArray := strOfNums (ds x 13)
theorem div_lo (x : Int) (h0 : 0 ≤ x) (n : Nat) : 0 ≤ x / 2 ^ n := Int.ediv_nonneg h0 (by have := Nat.two_pow_pos n; exact_mod_cast Nat.zero_le _)
theorem div_hi (x : Int) (h0 : 0 ≤ x) (n : Nat) : x / 2 ^ n ≤ x := Int.ediv_le_self _ h0
theorem shr5 (x : Int) (n : Nat) (hn : n ≤ 12) : shr .u64 x (5 * n) = x / 2 ^ (5 * n) := by
  unfold shr
  have e : (5 * (n : Int)).toNat = 5 * n := by omega
  rw [e, Nat.min_eq_left (by simp [IntKind.bits]; omega)]
/-- What a byte is worth as a digit; -1: it is none. -/
def dv (c : Int) : Int := Lib.indexByte alpha.data.toList c.toNat.toUInt8
theorem dv_all : ∀ c : Fin 256, -1 ≤ dv (c.val : Int) ∧ dv (c.val : Int) < 32 := by decide +kernel
theorem dv_bounds (c : Int) (h0 : 0 ≤ c) (h1 : c ≤ 255) : -1 ≤ dv c ∧ dv c < 32 := by
  have := dv_all ⟨c.toNat, by omega⟩
  simpa [Int.toNat_of_nonneg h0] using this
/-- The number that thirteen digits tell, from the i-th on. -/
def rwGo (s : ByteArray) : Nat → Int → Nat → Int × Bool
  | 0, x, _ => (x, true)
  | d + 1, x, i => if dv (bt s i) < 0 then (0, false) else if i = 0 ∧ dv (bt s i) > 15 then (0, false) else rwGo s d (x * 32 + dv (bt s i)) (i + 1)
def rw32 (s : ByteArray) : Int × Bool := if s.size = 13 then rwGo s 13 0 0 else (0, false)
/-- The bound that the digits so far keep. -/
def lim (d : Nat) : Int := if d = 13 then 1 else 2 ^ (64 - 5 * d)
theorem lim_all : ∀ d : Fin 13, lim d.val ≤ 18446744073709551616 ∧ 0 < lim d.val ∧ (d.val < 12 → lim (d.val + 1) * 32 = lim d.val) ∧ (d.val = 12 → lim d.val = 16) ∧ lim (d.val + 1) * 32 ≤ 18446744073709551616 := by decide +kernel
theorem word_size (x : Int) : (word x).size = 13 := by unfold word; rw [strOfNums_size, ds_length]

-- Ev
/-- With fuel enough the run answers r. -/
def Ev {α : Type} (f : Nat → Option α) (r : α) : Prop := ∃ K, ∀ k, K ≤ k → f k = some r
theorem Ev.pure {α : Type} {r : α} : Ev (fun _ => some r) r := ⟨0, fun _ _ => rfl⟩
theorem Ev.of {α : Type} {f : Nat → Option α} {r : α} (N : Nat) (h : ∀ k, N ≤ k → f k = some r) : Ev f r := ⟨N, h⟩
theorem Ev.step {α : Type} {f : Nat → Option α} {r : α} (h : Ev (fun k => f (k + 1)) r) : Ev f r := by
  obtain ⟨K, h⟩ := h
  refine ⟨K + 1, fun k hk => ?_⟩
  obtain ⟨m, rfl⟩ : ∃ m, k = m + 1 := ⟨k - 1, by omega⟩
  exact h m (by omega)
theorem Ev.bind {α β : Type} {f : Nat → Option α} {g : Nat → α → Option β} {a : α} {r : β} (h : Ev f a) (h2 : Ev (fun k => g k a) r) : Ev (fun k => (f k).bind (g k)) r := by
  obtain ⟨K, h⟩ := h
  obtain ⟨K2, h2⟩ := h2
  refine ⟨K + K2, fun k hk => ?_⟩
  show (f k).bind (g k) = some r
  rw [h k (by omega)]
  exact h2 k (by omega)
theorem Ev.cons {α β : Type} {x : Option α} {g : Nat → α → Option β} {a : α} {r : β} (h : x = some a) (h2 : Ev (fun k => g k a) r) : Ev (fun k => x.bind (g k)) r := by
  subst h
  exact h2
theorem Ev.pos {α : Type} {c : Prop} [Decidable c] {f g : Nat → Option α} {r : α} (hc : c) (h : Ev f r) : Ev (fun k => if c then f k else g k) r := by
  simpa only [if_pos hc] using h
theorem Ev.neg {α : Type} {c : Prop} [Decidable c] {f g : Nat → Option α} {r : α} (hc : ¬ c) (h : Ev g r) : Ev (fun k => if c then f k else g k) r := by
  simpa only [if_neg hc] using h
theorem Ev.at {α : Type} {f : Nat → Option α} {r : α} (h : Ev f r) : ∃ k, f k = some r := by
  obtain ⟨K, h⟩ := h
  exact ⟨K, h K (Nat.le_refl _)⟩
theorem Ev.uniq {α : Type} {f : Nat → Option α} {r s : α} (h : Ev f r) (h2 : Ev f s) : r = s := by
  obtain ⟨K, h⟩ := h
  obtain ⟨K2, h2⟩ := h2
  have a := h (K + K2) (by omega)
  have b := h2 (K + K2) (by omega)
  rw [a] at b
  exact Option.some.inj b
/-- From the end down. -/
theorem downTo (n : Nat) (P : Nat → Prop) (base : P n) (step : ∀ i, i < n → P (i + 1) → P i) : ∀ i, i ≤ n → P i := by
  intro i hi
  obtain ⟨d, rfl⟩ : ∃ d, i = n - d := ⟨n - i, by omega⟩
  clear hi
  induction d with
  | zero => exact base
  | succ d ih =>
    by_cases h : d < n
    · refine step _ (by omega) ?_
      have e : n - (d + 1) + 1 = n - d := by omega
      rw [e]; exact ih
    · have e : n - (d + 1) = n - d := by omega
      rw [e]; exact ih
theorem upN (i : Nat) (h : i < 1000000000000000) : wrap64 ((i : Int) + 1) = ((i + 1 : Nat) : Int) := by unfold wrap64; omega
theorem dnN (i : Nat) (h : i < 1000000000000000) (h0 : 0 < i) : wrap64 ((i : Int) - 1) = ((i - 1 : Nat) : Int) := by unfold wrap64; omega
/-- A loop that sets place by place leaves the row's picture. -/
theorem setLoop {A B : Type} (L : Nat → List B → Int → Option (List B)) (x : List A) (c : A → B)
    (step : ∀ (i : Nat) (y : List B) (r : List B) (h : i < x.length), y.length = x.length → Ev (fun k => L k (y.set i (c x[i])) ((i + 1 : Nat) : Int)) r → Ev (fun k => L k y (i : Int)) r)
    (stop : ∀ y : List B, y.length = x.length → Ev (fun k => L k y ((x.length : Nat) : Int)) y) :
    ∀ y : List B, y.length = x.length → Ev (fun k => L k y 0) (x.map c) := by
  have main := downTo x.length (fun i => ∀ y : List B, y.length = x.length → y.take i = (x.map c).take i → Ev (fun k => L k y (i : Int)) (x.map c)) ?_ ?_
  · intro y hy
    exact main 0 (by omega) y hy (by simp)
  · intro y hy he
    rw [List.take_of_length_le (by omega), List.take_of_length_le (by simp)] at he
    have := stop y hy
    rw [he] at this
    rw [he] at hy
    exact he ▸ stop y (by rw [he]; exact hy)
  · intro i hi ih y hy he
    refine step i y _ hi hy (ih _ (by simp [hy]) ?_)
    rw [List.take_add_one, List.take_add_one, List.take_set_of_le (by omega), he, List.getElem?_set_self (by omega)]
    simp [List.getElem?_eq_getElem hi]
theorem countLoop {α : Type} (L : Nat → Int → Option α) (n : Nat) (r : α) (step : ∀ i : Nat, i < n → Ev (fun k => L k ((i + 1 : Nat) : Int)) r → Ev (fun k => L k (i : Int)) r) (stop : Ev (fun k => L k ((n : Nat) : Int)) r) : Ev (fun k => L k 0) r :=
  downTo n (fun i => Ev (fun k => L k (i : Int)) r) stop (fun i hi h => step i hi h) 0 (by omega)

-- NameOk
def nmByte (c : Int) : Bool := (decide (97 ≤ c) && decide (c ≤ 122)) || (decide (65 ≤ c) && decide (c ≤ 90)) || (decide (48 ≤ c) && decide (c ≤ 57)) || c == 45 || c == 95 || c == 46 || c == 43
/-- Are n bytes from the i-th on those of a name? -/
def nmGo (s : ByteArray) : Nat → Nat → Bool
  | 0, _ => true
  | d + 1, i => nmByte (bt s i) && nmGo s d (i + 1)
/-- A name. -/
def nmOk (s : ByteArray) : Bool := decide (1 ≤ s.size) && decide (s.size ≤ 60) && !(bt s 0 == 46) && nmGo s s.size 0
theorem l1Letter_f (c : Int) : spec_l1Letter.f c = some ((decide (97 ≤ c) && decide (c ≤ 122)) || (decide (65 ≤ c) && decide (c ≤ 90))) := by
  unfold spec_l1Letter.f
  by_cases h1 : 97 ≤ c <;> by_cases h2 : c ≤ 122 <;> by_cases h3 : 65 ≤ c <;> by_cases h4 : c ≤ 90 <;> simp [h1, h2, h3, h4] <;> omega
theorem l1Digit_f (c : Int) : spec_l1Digit.f c = some (decide (48 ≤ c) && decide (c ≤ 57)) := by
  unfold spec_l1Digit.f
  by_cases h1 : 48 ≤ c <;> by_cases h2 : c ≤ 57 <;> simp [h1, h2]
theorem letter_f (c : Int) : impl_letter.f c = some ((decide (97 ≤ c) && decide (c ≤ 122)) || (decide (65 ≤ c) && decide (c ≤ 90))) := by
  unfold impl_letter.f
  by_cases h1 : 97 ≤ c <;> by_cases h2 : c ≤ 122 <;> by_cases h3 : 65 ≤ c <;> by_cases h4 : c ≤ 90 <;> simp [h1, h2, h3, h4] <;> omega
theorem digit_f (c : Int) : impl_digit.f c = some (decide (48 ≤ c) && decide (c ≤ 57)) := by
  unfold impl_digit.f
  by_cases h1 : 48 ≤ c <;> by_cases h2 : c ≤ 57 <;> simp [h1, h2]
theorem spec_NameOk_loop (s : ByteArray) (hs : s.size ≤ 60) : ∀ (d i k : Nat), i + d = s.size → d < k → spec_NameOk.l0 k s (i : Int) = some (nmGo s d i) := by
  intro d
  induction d with
  | zero =>
    intro i k hi hk
    obtain ⟨k, rfl⟩ : ∃ m, k = m + 1 := ⟨k - 1, by omega⟩
    simp only [spec_NameOk.l0]; rw [if_neg (by omega)]; rfl
  | succ d ih =>
    intro i k hi hk
    obtain ⟨k, rfl⟩ : ∃ m, k = m + 1 := ⟨k - 1, by omega⟩
    have e3 : wrap64 ((i : Int) + 1) = ((i + 1 : Nat) : Int) := by rw [up1 _ (by omega) (by omega)]; omega
    simp only [spec_NameOk.l0, nmGo, nmByte]
    rw [if_pos (by omega), if_pos (by omega), l1Letter_f, l1Digit_f, e3, ih (i + 1) k (by omega) (by omega)]
    simp only [Option.bind_some]
    generalize bt s (i : Int) = c
    generalize nmGo s d (i + 1) = g
    generalize ((decide (97 ≤ c) && decide (c ≤ 122)) || (decide (65 ≤ c) && decide (c ≤ 90))) = p
    generalize (decide (48 ≤ c) && decide (c ≤ 57)) = q
    cases p <;> cases q <;> simp
    by_cases h1 : c = 45
    · simp [h1]
    · by_cases h2 : c = 95
      · simp [h2]
      · by_cases h3 : c = 46
        · simp [h3]
        · by_cases h4 : c = 43
          · simp [h4]
          · simp [h1, h2, h3, h4]
theorem spec_NameOk_f (s : ByteArray) (k : Nat) (hk : 63 ≤ k) : spec_NameOk.f k s = some (nmOk s) := by
  obtain ⟨k, rfl⟩ : ∃ m, k = m + 1 := ⟨k - 1, by omega⟩
  unfold spec_NameOk.f nmOk
  simp only [spec_NameOk.j0]
  by_cases h1 : (s.size : Int) < 1
  · rw [if_pos h1]
    have : ¬ 1 ≤ s.size := by omega
    simp [this]
  · rw [if_neg h1]
    have e1 : 1 ≤ s.size := by omega
    by_cases h2 : (s.size : Int) > 60
    · rw [if_pos h2]
      have : ¬ s.size ≤ 60 := by omega
      simp [this]
    · rw [if_neg h2, if_pos (by omega)]
      have e2 : s.size ≤ 60 := by omega
      have h := spec_NameOk_loop s e2 s.size 0 k (by omega) (by omega)
      rw [show ((0 : Nat) : Int) = 0 from rfl] at h
      rw [h]
      by_cases h3 : bt s 0 = 46
      · simp [h3]
      · simp [h3, e1, e2]
theorem w32_byte (s : ByteArray) (i : Int) : wrap32 (bt s i) = bt s i := by
  have := bt_range s i
  unfold wrap32; omega
theorem impl_NameOk_loop (s : ByteArray) (hs : s.size ≤ 60) : ∀ (d i k : Nat), i + d = s.size → d < k → impl_NameOk.l0 k s (s.size : Int) (i : Int) = some (nmGo s d i) := by
  intro d
  induction d with
  | zero =>
    intro i k hi hk
    obtain ⟨k, rfl⟩ : ∃ m, k = m + 1 := ⟨k - 1, by omega⟩
    simp only [impl_NameOk.l0]; rw [if_neg (by omega)]; rfl
  | succ d ih =>
    intro i k hi hk
    obtain ⟨k, rfl⟩ : ∃ m, k = m + 1 := ⟨k - 1, by omega⟩
    have e3 : wrap64 ((i : Int) + 1) = ((i + 1 : Nat) : Int) := by rw [up1 _ (by omega) (by omega)]; omega
    have hb := bt_range s (i : Int)
    have e4 : strings_ContainsRune.f (⟨#[45, 95, 46, 43]⟩ : ByteArray) (bt s (i : Int)) = some (bt s (i : Int) == 45 || bt s (i : Int) == 95 || bt s (i : Int) == 46 || bt s (i : Int) == 43) := by
      unfold strings_ContainsRune.f
      rw [if_pos (by rw [Lib.toList_data]), if_pos (by omega)]
    simp only [impl_NameOk.l0, nmGo, nmByte]
    rw [if_pos (by omega), if_pos (by omega), if_pos (by omega), letter_f, digit_f, w32_byte, e4, e3, ih (i + 1) k (by omega) (by omega)]
    simp only [Option.bind_some]
    generalize bt s (i : Int) = c
    generalize nmGo s d (i + 1) = g
    generalize ((decide (97 ≤ c) && decide (c ≤ 122)) || (decide (65 ≤ c) && decide (c ≤ 90))) = p
    generalize (decide (48 ≤ c) && decide (c ≤ 57)) = q
    generalize (c == 45) = r1
    generalize (c == 95) = r2
    generalize (c == 46) = r3
    generalize (c == 43) = r4
    cases p <;> cases q <;> cases r1 <;> cases r2 <;> cases r3 <;> cases r4 <;> simp
theorem impl_NameOk_f (s : ByteArray) (k : Nat) (hk : 63 ≤ k) : impl_NameOk.f k s = some (nmOk s) := by
  obtain ⟨k, rfl⟩ : ∃ m, k = m + 1 := ⟨k - 1, by omega⟩
  unfold impl_NameOk.f nmOk
  simp only [impl_NameOk.j0]
  by_cases h1 : (s.size : Int) < 1
  · rw [if_pos h1]
    have : ¬ 1 ≤ s.size := by omega
    simp [this]
  · rw [if_neg h1]
    have e1 : 1 ≤ s.size := by omega
    by_cases h2 : (s.size : Int) > 60
    · rw [if_pos h2]
      have : ¬ s.size ≤ 60 := by omega
      simp [this]
    · rw [if_neg h2, if_pos (by omega)]
      have e2 : s.size ≤ 60 := by omega
      have h := impl_NameOk_loop s e2 s.size 0 k (by omega) (by omega)
      rw [show ((0 : Nat) : Int) = 0 from rfl] at h
      rw [h]
      by_cases h3 : bt s 0 = 46
      · simp [h3]
      · simp [h3, e1, e2]

-- CondE
def cCo (x : S43) : S45 := ⟨x.f0, x.f1, x.f2⟩
theorem rd43 (l : List S43) (i : Nat) (h : i < l.length) : rd_T43 l (i : Int) = l[i] := by unfold rd_T43; simp [List.getD_eq_getElem?_getD, List.getElem?_eq_getElem h]
theorem rd45 (l : List S45) (i : Nat) (h : i < l.length) : rd_T45 l (i : Int) = l[i] := by unfold rd_T45; simp [List.getD_eq_getElem?_getD, List.getElem?_eq_getElem h]
theorem szCond_ok (k : Int) (a : ByteArray) (n : Int) (m : Int) (h0 : 0 ≤ m) (h1 : m ≤ 1048576) (ha : a.size ≤ 9223372036854775807) :
    ∃ t, laws_szCond.f k a n m = some t ∧ (0 ≤ t → t ≤ m ∧ a.size ≤ 1048576) ∧ t ≤ 1048576 := by
  unfold laws_szCond.f
  rw [w64 (m - (a.size : Int)) (by omega) (by omega)]
  by_cases h : m - (a.size : Int) < 0
  · rw [if_pos h]; exact ⟨-1, rfl, by omega, by omega⟩
  · rw [if_neg h]; exact ⟨_, rfl, by omega, by omega⟩
theorem szCondS_ev (x : List S43) (hx : x.length ≤ 9223372036854775807) (m : Int) (h0 : 0 ≤ m) (h1 : m ≤ 1048576) (ok : ∀ g ∈ x, g.f1.size ≤ 9223372036854775807) : ∃ t, Ev (fun k => laws_szCondS.f k x m) t ∧ (0 ≤ t → x.length ≤ 1048576 ∧ ∀ g ∈ x, g.f1.size ≤ 1048576) ∧ t ≤ 1048576 := by
  unfold laws_szCondS.f
  rw [w64 _ (by omega) (by omega)]
  by_cases h : m - (x.length : Int) < 0
  · exact ⟨_, Ev.pos h Ev.pure, by omega, by omega⟩
  · have key := downTo x.length (fun i => ∀ a : Int, 0 ≤ a → a ≤ 1048576 → ∃ t, Ev (fun k => laws_szCondS.l0 k x a (i : Int)) t ∧ (0 ≤ t → ∀ g ∈ x.drop i, g.f1.size ≤ 1048576) ∧ t ≤ 1048576) ?_ ?_ 0 (by omega)
    · obtain ⟨t, a, b, c⟩ := key (m - (x.length : Int)) (by omega) (by omega)
      exact ⟨t, Ev.neg h a, fun h3 => ⟨by omega, by simpa using b h3⟩, c⟩
    · intro a a0 a1
      refine ⟨a, Ev.step ?_, by simp, a1⟩
      simp only [laws_szCondS.l0]
      exact Ev.neg (by omega) Ev.pure
    · intro i hi ih a a0 a1
      have o1 := ok _ (List.getElem_mem hi)
      obtain ⟨t, ht, hm, hn⟩ := szCond_ok (x[i]).f0 (x[i]).f1 (x[i]).f2 a a0 a1 o1
      by_cases h2 : t < 0
      · refine ⟨-1, Ev.step ?_, by omega, by omega⟩
        simp only [laws_szCondS.l0, rd43 x i hi]
        exact Ev.pos (by omega) (Ev.pos (by omega) (Ev.cons ht (Ev.pos h2 Ev.pure)))
      · obtain ⟨r, hr, hr2, hr3⟩ := ih t (by omega) hn
        refine ⟨r, Ev.step ?_, ?_, hr3⟩
        · simp only [laws_szCondS.l0, rd43 x i hi, upN i (by omega)]
          exact Ev.pos (by omega) (Ev.pos (by omega) (Ev.cons ht (Ev.neg h2 hr)))
        · intro h3 p hp
          rw [List.drop_eq_getElem_cons hi] at hp
          rcases List.mem_cons.1 hp with rfl | hp
          · exact (hm (by omega)).2
          · exact hr2 h3 p hp
theorem toCondS_ev (x : List S43) (hx : x.length ≤ 1048576) : Ev (fun k => laws_toCondS.f k x) (x.map cCo) := by
  unfold laws_toCondS.f
  refine Ev.pos (by omega) (Ev.pos (by omega) ?_)
  refine setLoop (fun k y i => laws_toCondS.l0 k x y i) x cCo ?_ ?_ _ (by simp)
  · intro i y r hi hy h
    refine Ev.step ?_
    simp only [laws_toCondS.l0, rd43 x i hi, upN i (by omega), laws_toCond.f]
    exact Ev.pos (by omega) (Ev.pos (by omega) (Ev.cons rfl (Ev.pos (by omega) h)))
  · intro y hy
    refine Ev.step ?_
    simp only [laws_toCondS.l0]
    exact Ev.neg (by omega) Ev.pure
theorem eqCondS_ev (x : List S45) (hx : x.length ≤ 1048576) : Ev (fun k => laws_eqCondS.f k x x) true := by
  unfold laws_eqCondS.f
  refine Ev.pos rfl ?_
  refine countLoop (fun k i => laws_eqCondS.l0 k x x i) x.length true ?_ ?_
  · intro i hi h
    refine Ev.step ?_
    simp only [laws_eqCondS.l0, rd45 x i hi, upN i (by omega), laws_eqCond.f]
    exact Ev.pos (by omega) (Ev.pos (by omega) (Ev.pos (by omega) (Ev.bind (Ev.pos trivial (Ev.pos trivial (Ev.pos trivial Ev.pure))) (Ev.pos rfl h))))
  · refine Ev.step ?_
    simp only [laws_eqCondS.l0]
    exact Ev.neg (by omega) Ev.pure

-- Cond
mutual
/-- The tree's nodes in line. -/
def CT.flat : CT → List S45
  | .node k n ks => ⟨k, n, ((CT.flats ks).length : Int)⟩ :: CT.flats ks
def CT.flats : List CT → List S45
  | [] => []
  | t :: ts => CT.flat t ++ CT.flats ts
end
theorem flats_append (a b : List CT) : CT.flats (a ++ b) = CT.flats a ++ CT.flats b := by
  induction a with
  | nil => simp [CT.flats]
  | cons x xs ih => simp [CT.flats, ih]
/-- The parts that a row of conditions falls into, each read by p. -/
def ptsF (p : List S45 → Option CT) : Nat → List S45 → Option (List CT)
  | 0, _ => none
  | _ + 1, [] => some []
  | n + 1, c :: l => if c.f2 < 0 ∨ c.f2 > (l.length : Int) then none else (p (c :: l.take c.f2.toNat)).bind fun t => (ptsF p n (l.drop c.f2.toNat)).bind fun ts => some (t :: ts)
/-- May a node have so many kids? (nm: is this name one?) -/
def nodeOk (nm : ByteArray → Bool) (c : S45) (n : Nat) : Bool :=
  if c.f0 = 1 then decide (n = 0) && nm c.f1 && !(c.f1.toList == ([116, 114, 117, 101] : List UInt8)) && !(c.f1.toList == ([102, 97, 108, 115, 101] : List UInt8))
  else c.f1.toList == ([] : List UInt8) && ((decide (c.f0 = 2 ∨ c.f0 = 3) && decide (n = 0)) || (decide (c.f0 = 4) && decide (n = 1)) || (decide (c.f0 = 5 ∨ c.f0 = 6) && decide (2 ≤ n)))
/-- The tree that a row is; none: it is no condition. -/
def prs (nm : ByteArray → Bool) : Nat → Nat → List S45 → Option CT
  | 0, _, _ => none
  | _ + 1, _, [] => none
  | n + 1, d, c :: l => if d > 60 ∨ c.f2 ≠ (l.length : Int) then none else (ptsF (prs nm n (d + 1)) (n + 1) l).bind fun ts => if nodeOk nm c ts.length then some (.node c.f0 c.f1 ts) else none
theorem ptsF_flat (p : List S45 → Option CT) (hp : ∀ l t, p l = some t → CT.flat t = l) : ∀ n l ts, ptsF p n l = some ts → CT.flats ts = l := by
  intro n
  induction n with
  | zero => intro l ts h; simp [ptsF] at h
  | succ n ih =>
    intro l ts h
    cases l with
    | nil => simp [ptsF] at h; subst h; simp [CT.flats]
    | cons c l =>
      unfold ptsF at h
      split at h
      · simp at h
      · obtain ⟨t, h1, h⟩ := Option.bind_eq_some_iff.mp h
        obtain ⟨ts', h2, h⟩ := Option.bind_eq_some_iff.mp h
        simp at h; subst h
        rw [CT.flats, hp _ _ h1, ih _ _ h2]
        simp
theorem prs_flat (nm : ByteArray → Bool) : ∀ n d l t, prs nm n d l = some t → CT.flat t = l := by
  intro n
  induction n with
  | zero => intro d l t h; simp [prs] at h
  | succ n ih =>
    intro d l t h
    cases l with
    | nil => simp [prs] at h
    | cons c l =>
      unfold prs at h
      split at h
      · simp at h
      · rename_i hc
        obtain ⟨ts, h1, h⟩ := Option.bind_eq_some_iff.mp h
        split at h
        · simp at h; subst h
          have := ptsF_flat _ (fun l t ht => ih (d + 1) l t ht) _ _ _ h1
          rw [CT.flat, this]
          have hc2 : c.f2 = (l.length : Int) := by
            have := not_or.1 hc
            exact Classical.not_not.1 this.2
          cases c
          simp at hc2
          simp [hc2]
        · simp at h
/-- More fuel, the same tree: fuel past the row's length is enough. -/
theorem ptsF_enough (p q : List S45 → Option CT) : ∀ n m (l : List S45), l.length < n → l.length < m → (∀ l' : List S45, l'.length ≤ l.length → p l' = q l') → ptsF p n l = ptsF q m l := by
  intro n
  induction n with
  | zero => intro m l h; omega
  | succ n ih =>
    intro m l h1 h2 hpq
    obtain ⟨m, rfl⟩ : ∃ k, m = k + 1 := ⟨m - 1, by omega⟩
    cases l with
    | nil => simp [ptsF]
    | cons c l =>
      unfold ptsF
      simp only [List.length_cons] at h1 h2 hpq
      by_cases hc : c.f2 < 0 ∨ c.f2 > (l.length : Int)
      · rw [if_pos hc, if_pos hc]
      · rw [if_neg hc, if_neg hc, hpq (c :: l.take c.f2.toNat) (by simp; omega)]
        rw [ih m (l.drop c.f2.toNat) (by simp; omega) (by simp; omega) (fun l' hl' => hpq l' (by simp at hl'; omega))]
theorem prs_enough (nm : ByteArray → Bool) : ∀ n m d (l : List S45), l.length < n → l.length < m → prs nm n d l = prs nm m d l := by
  intro n
  induction n with
  | zero => intro m d l h; omega
  | succ n ih =>
    intro m d l h1 h2
    obtain ⟨m, rfl⟩ : ∃ k, m = k + 1 := ⟨m - 1, by omega⟩
    cases l with
    | nil => simp [prs]
    | cons c l =>
      unfold prs
      simp only [List.length_cons] at h1 h2
      rw [ptsF_enough _ _ (n + 1) (m + 1) l (by omega) (by omega) (fun l' hl' => ih m (d + 1) l' (by omega) (by omega))]

theorem Ev.shift {α : Type} {f : Nat → Option α} {r : α} (h : Ev f r) : Ev (fun k => f (k + 1)) r := by
  obtain ⟨K, h⟩ := h
  exact ⟨K, fun k hk => h (k + 1) (by omega)⟩
theorem implNm_ev (s : ByteArray) : Ev (fun k => impl_NameOk.f k s) (nmOk s) := Ev.of 63 (fun k hk => impl_NameOk_f s k hk)
theorem specNm_ev (s : ByteArray) : Ev (fun k => spec_NameOk.f k s) (nmOk s) := Ev.of 63 (fun k hk => spec_NameOk_f s k hk)
theorem ctOk_ev (c : S45) (n : Nat) : Ev (fun k => ctOk k c (n : Int)) (nodeOk nmOk c n) := by
  unfold ctOk nodeOk
  by_cases k1 : c.f0 = 1
  · refine Ev.pos k1 ?_
    rw [if_pos k1]
    by_cases h0 : (n : Int) = 0
    · refine Ev.pos h0 (Ev.bind (implNm_ev _) ?_)
      have : n = 0 := by omega
      simp only [this, decide_true, Bool.true_and, bne]
      exact Ev.pure
    · have : n ≠ 0 := by omega
      simp only [this, decide_false, Bool.false_and]
      exact Ev.neg h0 Ev.pure
  · refine Ev.neg k1 ?_
    rw [if_neg k1]
    generalize (c.f1.toList == ([] : List UInt8)) = em
    have e0 : ((n : Int) == 0) = decide (n = 0) := by by_cases h : n = 0 <;> simp [h]
    have e1 : ((n : Int) == 1) = decide (n = 1) := by by_cases h : n = 1 <;> simp [h] <;> omega
    have e2 : decide (2 ≤ (n : Int)) = decide (2 ≤ n) := by by_cases h : 2 ≤ n <;> simp [h] <;> omega
    rw [e0, e1, e2]
    by_cases k2 : c.f0 = 2
    · refine Ev.pos k2 ?_
      simp only [k2]
      cases em <;> cases decide (n = 0) <;> exact Ev.pure
    refine Ev.neg k2 ?_
    by_cases k3 : c.f0 = 3
    · refine Ev.pos k3 ?_
      simp only [k3]
      cases em <;> cases decide (n = 0) <;> exact Ev.pure
    refine Ev.neg k3 ?_
    by_cases k4 : c.f0 = 4
    · refine Ev.pos k4 ?_
      simp only [k4]
      cases em <;> cases decide (n = 1) <;> exact Ev.pure
    refine Ev.neg k4 ?_
    by_cases k5 : c.f0 = 5
    · refine Ev.pos k5 ?_
      simp only [k5]
      cases em <;> cases decide (2 ≤ n) <;> exact Ev.pure
    refine Ev.neg k5 ?_
    by_cases k6 : c.f0 = 6
    · refine Ev.pos k6 ?_
      simp only [k6]
      cases em <;> cases decide (2 ≤ n) <;> exact Ev.pure
    refine Ev.neg k6 ?_
    simp only [k2, k3, k4, k5, k6, or_self, decide_false, Bool.false_and, Bool.or_self, Bool.and_false]
    exact Ev.pure
/-- What the reader hands back at place i, where the parts end at e. -/
def TkOk (cs : List S45) (e : Nat) (p : List S45 → Option CT) (i : Nat) (r : Option CT × Int) : Prop :=
  ∀ (h : i < cs.length), r.1 = (if (cs[i]).f2 < 0 ∨ (cs[i]).f2 > (((cs.take e).drop (i + 1)).length : Int) then none else p (cs[i] :: ((cs.take e).drop (i + 1)).take (cs[i]).f2.toNat)) ∧ (r.1 ≠ none → r.2 = (i : Int) + 1 + (cs[i]).f2)
theorem take_drop_cons (cs : List S45) (e i : Nat) (he : e ≤ cs.length) (hi : i < e) : (cs.take e).drop i = cs[i]'(by omega) :: (cs.take e).drop (i + 1) := by
  rw [List.drop_eq_getElem_cons (by rw [List.length_take]; omega), List.getElem_take]
theorem kids_ev (cs : List S45) (e : Nat) (he : e ≤ cs.length) (hl : cs.length ≤ 300) (p : List S45 → Option CT) (i0 : Nat) : ∀ (n i : Nat) (acc : List CT) (f : Nat → Int → Option (Option CT × Int)), i0 ≤ i → i + n = e → acc.length + n ≤ 300 →
    (∀ j : Nat, i0 ≤ j → j < e → ∃ r, Ev (fun k => f k (j : Int)) r ∧ TkOk cs e p j r) →
    ∃ r, Ev (fun k => ctKids (f k) k (e : Int) (i : Int) acc) r ∧ r.1 = (ptsF p (n + 1) ((cs.take e).drop i)).map (acc ++ ·) ∧ (r.1 ≠ none → r.2 = (e : Int)) := by
  intro n
  induction n using Nat.strongRecOn with
  | _ n ih =>
    intro i acc f h0 hi ha hf
    by_cases hn : n = 0
    · have e1 : (cs.take e).drop i = [] := by rw [List.drop_eq_nil_iff, List.length_take]; omega
      refine ⟨(some acc, (e : Int)), Ev.step ?_, ?_, fun _ => rfl⟩
      · simp only [ctKids]
        have : (i : Int) = (e : Int) := by omega
        rw [this]
        exact Ev.neg (by omega) Ev.pure
      · rw [e1, hn]; simp [ptsF]
    · obtain ⟨r, hr, hk⟩ := hf i h0 (by omega)
      have hr := hr.shift
      obtain ⟨k1, k2⟩ := hk (by omega)
      have e1 := take_drop_cons cs e i he (by omega)
      have e2 : ((cs.take e).drop (i + 1)).length = n - 1 := by rw [List.length_drop, List.length_take]; omega
      rw [e1]
      obtain ⟨x, hx⟩ : ∃ x, x = (cs.take e).drop (i + 1) := ⟨_, rfl⟩
      rw [← hx] at k1 e2 ⊢
      obtain ⟨c, hc⟩ : ∃ c, c = cs[i]'(by omega) := ⟨_, rfl⟩
      rw [← hc] at k1 k2 ⊢
      unfold ptsF
      cases hr1 : r.1 with
      | none =>
        rw [hr1] at k1
        refine ⟨(none, r.2), Ev.step ?_, ?_, fun h => absurd rfl h⟩
        · simp only [ctKids]
          refine Ev.pos (by omega) (Ev.pos (by omega) (Ev.bind hr ?_))
          simp only [hr1]
          exact Ev.pure
        · by_cases hb : c.f2 < 0 ∨ c.f2 > (x.length : Int)
          · rw [if_pos hb]; rfl
          · rw [if_neg hb] at k1 ⊢
            rw [← k1]; rfl
      | some t =>
        rw [hr1] at k1
        have k3 := k2 (by rw [hr1]; simp)
        by_cases hb : c.f2 < 0 ∨ c.f2 > (x.length : Int)
        · rw [if_pos hb] at k1; cases k1
        · rw [if_neg hb] at k1
          obtain ⟨z, hz⟩ : ∃ z : Nat, c.f2 = (z : Int) := ⟨c.f2.toNat, by omega⟩
          have e3 : x.drop c.f2.toNat = (cs.take e).drop (i + 1 + z) := by rw [hx, List.drop_drop, hz]; simp
          obtain ⟨r2, q1, q2, q3⟩ := ih (n - 1 - z) (by omega) (i + 1 + z) (acc ++ [t]) (fun k => f (k + 1)) (by omega) (by omega) (by rw [List.length_append, List.length_singleton]; omega) (fun j a b => by
            obtain ⟨r, u1, u2⟩ := hf j a b
            exact ⟨r, u1.shift, u2⟩)
          refine ⟨r2, Ev.step ?_, ?_, q3⟩
          · simp only [ctKids]
            refine Ev.pos (by omega) (Ev.pos (by omega) (Ev.bind hr ?_))
            simp only [hr1]
            have : r.2 = ((i + 1 + z : Nat) : Int) := by rw [k3, hz]; omega
            rw [this]
            exact q1
          · have e4 : ptsF p n (x.drop c.f2.toNat) = ptsF p (n - 1 - z + 1) ((cs.take e).drop (i + 1 + z)) := by
              rw [e3]
              exact ptsF_enough _ _ _ _ _ (by rw [List.length_drop, List.length_take]; omega) (by rw [List.length_drop, List.length_take]; omega) (fun _ _ => rfl)
            rw [if_neg hb, ← k1, Option.bind_some, e4, q2]
            cases ptsF p (n - 1 - z + 1) ((cs.take e).drop (i + 1 + z)) <;> simp
theorem wsub (e i : Nat) (h : i < e) (he : e ≤ 300) : wrap64 ((wrap64 ((e : Int) - (i : Int))) - 1) = ((e - (i + 1) : Nat) : Int) := by
  rw [w64 ((e : Int) - (i : Int)) (by omega) (by omega), w64 _ (by omega) (by omega)]; omega
theorem wadd (a b : Nat) (h : a + b ≤ 1000000) : wrap64 ((a : Int) + (b : Int)) = ((a + b : Nat) : Int) := by
  rw [w64 _ (by omega) (by omega)]; omega
theorem take_ev (cs : List S45) (hl : cs.length ≤ 300) : ∀ (n d e i : Nat), e ≤ cs.length → i < e → e - i ≤ n → ∃ r, Ev (fun k => ctTake k cs (d : Int) (e : Int) (i : Int)) r ∧ TkOk cs e (prs nmOk (n + 1) d) i r := by
  intro n
  induction n with
  | zero => intro d e i h1 h2 h3; omega
  | succ n ih =>
    intro d e i he hi hn
    have hi' : i < cs.length := by omega
    have e2 : ((cs.take e).drop (i + 1)).length = e - (i + 1) := by rw [List.length_drop, List.length_take]; omega
    obtain ⟨c, hc⟩ : ∃ c, c = cs[i]'hi' := ⟨_, rfl⟩
    have hrd : rd_T45 cs (i : Int) = c := by rw [rd45 cs i hi', hc]
    by_cases hd : 60 < d
    · refine ⟨(none, (i : Int)), Ev.step ?_, fun h => ⟨?_, fun h => absurd rfl h⟩⟩
      · simp only [ctTake]
        exact Ev.neg (by omega) (Ev.pos (by omega) Ev.pure)
      · split
        · rfl
        · unfold prs; rw [if_pos (Or.inl hd)]
    have w1 : Unit → wrap64 ((wrap64 ((e : Int) - (i : Int))) - 1) = ((e - (i + 1) : Nat) : Int) := fun _ => wsub e i hi (by omega)
    by_cases hb : c.f2 < 0 ∨ c.f2 > ((e - (i + 1) : Nat) : Int)
    · refine ⟨(none, (i : Int)), Ev.step ?_, fun h => ⟨?_, fun h => absurd rfl h⟩⟩
      · simp only [ctTake, hrd, w1 ()]
        refine Ev.neg (by omega) (Ev.neg (by omega) (Ev.pos (by omega) ?_))
        by_cases hb1 : c.f2 < 0
        · exact Ev.pos hb1 Ev.pure
        · exact Ev.neg hb1 (Ev.pos (by omega) Ev.pure)
      · rw [← hc, e2, if_pos hb]
    obtain ⟨z, hz⟩ : ∃ z : Nat, c.f2 = (z : Int) := ⟨c.f2.toNat, by omega⟩
    have w2 : Unit → wrap64 ((i : Int) + 1) = ((i + 1 : Nat) : Int) := fun _ => upN i (by omega)
    have w3 : Unit → wrap64 (((i + 1 : Nat) : Int) + (z : Int)) = ((i + 1 + z : Nat) : Int) := fun _ => wadd (i + 1) z (by omega)
    have w4 : Unit → wrap64 ((d : Int) + 1) = ((d + 1 : Nat) : Int) := fun _ => upN d (by omega)
    have hb2 : i + 1 + z ≤ e := by omega
    have hf : ∀ j : Nat, i + 1 ≤ j → j < i + 1 + z → ∃ r, Ev (fun k => ctTake k cs ((d + 1 : Nat) : Int) ((i + 1 + z : Nat) : Int) (j : Int)) r ∧ TkOk cs (i + 1 + z) (prs nmOk (n + 1) (d + 1)) j r := fun j a b => ih (d + 1) (i + 1 + z) j (by omega) b (by omega)
    have hz3 : ([] : List CT).length + z ≤ 300 := by rw [List.length_nil]; omega
    obtain ⟨r, q1, q2, q3⟩ := kids_ev cs (i + 1 + z) (by omega) hl (prs nmOk (n + 1) (d + 1)) (i + 1) z (i + 1) [] (fun k j => ctTake k cs ((d + 1 : Nat) : Int) ((i + 1 + z : Nat) : Int) j) (Nat.le_refl _) rfl hz3 hf
    have e3 : ((cs.take e).drop (i + 1)).take z = (cs.take (i + 1 + z)).drop (i + 1) := by
      rw [List.drop_take, List.drop_take, List.take_take]
      congr 1
      omega
    have e4 : ((cs.take (i + 1 + z)).drop (i + 1)).length = z := by rw [List.length_drop, List.length_take]; omega
    have q2' : r.1 = ptsF (prs nmOk (n + 1) (d + 1)) (n + 2) ((cs.take (i + 1 + z)).drop (i + 1)) := by
      rw [q2, ptsF_enough _ (prs nmOk (n + 1) (d + 1)) (z + 1) (n + 2) _ (by omega) (by omega) (fun _ _ => rfl)]
      cases ptsF (prs nmOk (n + 1) (d + 1)) (n + 2) ((cs.take (i + 1 + z)).drop (i + 1)) <;> simp
    have step : ∀ s, Ev (fun k => ctEnd k c r) s → Ev (fun k => ctTake k cs (d : Int) (e : Int) (i : Int)) s := by
      intro s hs
      refine Ev.step ?_
      simp only [ctTake, hrd, w1 (), hz, w2 (), w3 (), w4 ()]
      exact Ev.neg (by omega) (Ev.neg (by omega) (Ev.pos (by omega) (Ev.neg (by omega) (Ev.neg (by omega) (Ev.bind q1 hs)))))
    have hp : ∀ s : Option CT, s = ((r.1).bind fun ts => if nodeOk nmOk c ts.length = true then some (.node c.f0 c.f1 ts) else none) →
        s = (if (cs[i]'hi').f2 < 0 ∨ (cs[i]'hi').f2 > (((cs.take e).drop (i + 1)).length : Int) then none else prs nmOk (n + 1 + 1) d (cs[i]'hi' :: ((cs.take e).drop (i + 1)).take (cs[i]'hi').f2.toNat)) := by
      rintro s rfl
      rw [← hc, e2, if_neg hb, hz, Int.toNat_natCast, e3, prs]
      rw [if_neg (show ¬ (d > 60 ∨ c.f2 ≠ _) from by rw [e4, hz]; omega), ← q2']
    cases hr : r.1 with
    | none =>
      refine ⟨(none, r.2), step _ ?_, fun h => ⟨hp none (by rw [hr]; rfl), fun h => absurd rfl h⟩⟩
      simp only [ctEnd, hr]
      exact Ev.pure
    | some ts =>
      have q4 := q3 (by rw [hr]; simp)
      refine ⟨(if nodeOk nmOk c ts.length = true then some (.node c.f0 c.f1 ts) else none, r.2), step _ ?_, fun h => ⟨hp _ (by rw [hr]; rfl), fun h => ?_⟩⟩
      · simp only [ctEnd, hr]
        exact Ev.bind (ctOk_ev c ts.length) Ev.pure
      · rw [q4, ← hc, hz]; simp
/-- The tree of a row; none: it is no condition. -/
def treeOf (cs : List S45) : Option CT := if cs.length ≤ 300 then prs nmOk (cs.length + 1) 0 cs else none
theorem tree_ev (cs : List S45) : Ev (fun k => impl_condTree.f k cs) (treeOf cs) := by
  unfold impl_condTree.f treeOf
  by_cases hl : cs.length ≤ 300
  · rw [if_pos hl]
    refine Ev.neg (by omega) ?_
    cases cs with
    | nil =>
      refine Ev.bind (a := (none, 0)) (Ev.step ?_) ?_
      · simp only [ctTake]
        exact Ev.pos (by simp) Ev.pure
      · simp only [prs]
        exact Ev.pos rfl Ev.pure
    | cons c l =>
      obtain ⟨r, h1, h2⟩ := take_ev (c :: l) hl (l.length + 1) 0 (l.length + 1) 0 (by simp) (by simp) (by simp)
      obtain ⟨k1, k2⟩ := h2 (by simp)
      have hlen : (c :: l).length = l.length + 1 := rfl
      rw [hlen]
      refine Ev.bind h1 ?_
      have e1 : ((c :: l).take (l.length + 1)).drop (0 + 1) = l := by simp
      rw [e1] at k1
      simp only [List.getElem_cons_zero] at k1 k2
      by_cases hz : c.f2 = (l.length : Int)
      · rw [if_neg (by omega), hz, Int.toNat_natCast, List.take_length] at k1
        rw [← k1]
        cases hr : r.1 with
        | none =>
          by_cases hh : r.2 = ((l.length + 1 : Nat) : Int)
          · exact Ev.pos hh Ev.pure
          · exact Ev.neg hh Ev.pure
        | some t =>
          have := k2 (by rw [hr]; simp)
          exact Ev.pos (by rw [this, hz]; omega) Ev.pure
      · have hn : prs nmOk (l.length + 1 + 1) 0 (c :: l) = none := by unfold prs; rw [if_pos (Or.inr hz)]
        rw [hn]
        by_cases hh : r.2 = ((l.length + 1 : Nat) : Int)
        · refine Ev.pos hh ?_
          cases hr : r.1 with
          | none => exact Ev.pure
          | some t =>
            have := k2 (by rw [hr]; simp)
            rw [this] at hh
            omega
        · exact Ev.neg hh Ev.pure
  · rw [if_neg hl]
    exact Ev.pos (by omega) Ev.pure


theorem j2_ev (l : List S45) (c : S45) (h0 : 0 < l.length) (hc : rd_T45 l 0 = c) (n : Nat) (k1 : c.f0 ≠ 1) (b : Bool) (hb : b = true ↔ (c.f0 = 2 ∨ c.f0 = 3)) : Ev (fun k => spec_l7Ok.j2 k l (n : Int) c.f0 b) (nodeOk nmOk c n) := by
  refine Ev.step ?_
  simp only [spec_l7Ok.j2, hc]
  unfold nodeOk
  rw [if_neg k1]
  generalize (c.f1.toList == ([] : List UInt8)) = em
  cases b with
  | true =>
    have h23 := hb.1 rfl
    refine Ev.pos rfl ?_
    have h4 : ¬ c.f0 = 4 := by omega
    have h56 : ¬ (c.f0 = 5 ∨ c.f0 = 6) := by omega
    simp only [h23, h4, h56, decide_true, decide_false, Bool.true_and, Bool.false_and, Bool.or_false]
    by_cases hn : n = 0
    · refine Ev.pos (by omega) (Ev.pos (by omega) ?_)
      simp only [hn, decide_true, Bool.and_true]
      exact Ev.pure
    · refine Ev.neg (by omega) ?_
      simp only [hn, decide_false, Bool.and_false]
      exact Ev.pure
  | false =>
    have h23 : ¬ (c.f0 = 2 ∨ c.f0 = 3) := fun h => by have := hb.2 h; cases this
    refine Ev.neg (by simp) ?_
    simp only [h23, decide_false, Bool.false_and, Bool.false_or]
    by_cases h4 : c.f0 = 4
    · refine Ev.pos h4 ?_
      simp only [h4, decide_true, Bool.true_and]
      by_cases hn : n = 1
      · refine Ev.pos (by omega) (Ev.pos (by omega) ?_)
        simp only [hn, decide_true]
        cases em <;> exact Ev.pure
      · refine Ev.neg (by omega) ?_
        simp only [hn, decide_false]
        cases em <;> exact Ev.pure
    · refine Ev.neg h4 (Ev.pos (by omega) ?_)
      simp only [h4, decide_false, Bool.false_and, Bool.false_or]
      by_cases h5 : c.f0 = 5
      · refine Ev.pos h5 ?_
        simp only [h5, true_or, decide_true, Bool.true_and]
        by_cases hn : 2 ≤ n
        · refine Ev.pos (by omega) ?_
          simp only [hn, decide_true, Bool.and_true]
          exact Ev.pure
        · refine Ev.neg (by omega) ?_
          simp only [hn, decide_false, Bool.and_false]
          exact Ev.pure
      · refine Ev.neg h5 ?_
        by_cases h6 : c.f0 = 6
        · refine Ev.pos h6 ?_
          simp only [h6, or_true, decide_true, Bool.true_and]
          by_cases hn : 2 ≤ n
          · refine Ev.pos (by omega) ?_
            simp only [hn, decide_true, Bool.and_true]
            exact Ev.pure
          · refine Ev.neg (by omega) ?_
            simp only [hn, decide_false, Bool.and_false]
            exact Ev.pure
        · refine Ev.neg h6 ?_
          simp only [h5, h6, or_self, decide_false, Bool.false_and, Bool.and_false]
          exact Ev.pure
/-- The loop's end: what kind of node it is. -/
theorem l7tail_ev (l : List S45) (c : S45) (h0 : 0 < l.length) (hc : rd_T45 l 0 = c) (d : Int) (n : Nat) (i : Int) (hi : ¬ i < (l.length : Int)) : Ev (fun k => spec_l7Ok.l0 k l d (n : Int) i) (nodeOk nmOk c n) := by
  refine Ev.step ?_
  simp only [spec_l7Ok.l0, hc]
  refine Ev.neg hi (Ev.pos (by omega) ?_)
  by_cases k1 : c.f0 = 1
  · refine Ev.pos k1 ?_
    unfold nodeOk
    rw [if_pos k1]
    by_cases hn : n = 0
    · refine Ev.pos (by omega) (Ev.bind (specNm_ev _) ?_)
      simp only [hn, decide_true, Bool.true_and]
      cases nmOk c.f1 with
      | false => exact Ev.neg (by simp) Ev.pure
      | true =>
        refine Ev.pos rfl ?_
        by_cases ht : c.f1.toList = ([116, 114, 117, 101] : List UInt8)
        · refine Ev.pos ht ?_
          simp only [ht, beq_self_eq_true, Bool.not_true, Bool.and_false, Bool.false_and]
          exact Ev.pure
        · refine Ev.neg ht ?_
          have : (c.f1.toList == ([116, 114, 117, 101] : List UInt8)) = false := beq_eq_false_iff_ne.mpr ht
          simp only [this, Bool.not_false, Bool.true_and, bne]
          exact Ev.pure
    · refine Ev.neg (by omega) ?_
      simp only [hn, decide_false, Bool.false_and]
      exact Ev.pure
  · refine Ev.neg k1 ?_
    by_cases k2 : c.f0 = 2
    · exact Ev.pos k2 (j2_ev l c h0 hc n k1 _ (by simp [k2]))
    · exact Ev.neg k2 (j2_ev l c h0 hc n k1 _ (by simp [k2]))
theorem l7_ev : ∀ (n d : Nat) (l : List S45), l.length ≤ n → l.length ≤ 300 → Ev (fun k => spec_l7Ok.f k l (d : Int)) (prs nmOk (n + 1) d l).isSome := by
  intro n
  induction n with
  | zero =>
    intro d l h1 h2
    have : l = [] := List.length_eq_zero_iff.1 (by omega)
    subst this
    refine Ev.step ?_
    simp only [spec_l7Ok.f]
    refine Ev.pos (by simp) (Ev.step ?_)
    simp only [spec_l7Ok.j0]
    exact Ev.pos trivial Ev.pure
  | succ n ih =>
    intro d l h1 h2
    have bad : Ev (fun k => spec_l7Ok.j0 k l (d : Int) true) false := Ev.step (by simp only [spec_l7Ok.j0]; exact Ev.pos trivial Ev.pure)
    cases l with
    | nil =>
      refine Ev.step ?_
      simp only [spec_l7Ok.f]
      exact Ev.pos rfl bad
    | cons c t =>
      have hlen : (c :: t).length = t.length + 1 := rfl
      rw [hlen] at h1 h2
      have hc : rd_T45 (c :: t) 0 = c := rfl
      refine Ev.step ?_
      simp only [spec_l7Ok.f, hc]
      refine Ev.neg (by rw [hlen]; omega) ?_
      by_cases hd : d > 60
      · rw [show prs nmOk (n + 1 + 1) d (c :: t) = none from by unfold prs; rw [if_pos (Or.inl hd)]]
        exact Ev.pos (by omega) bad
      refine Ev.neg (by omega) (Ev.pos (by rw [hlen]; omega) ?_)
      have w1 : wrap64 (((c :: t).length : Int) - 1) = (t.length : Int) := by rw [hlen, w64 _ (by omega) (by omega)]; omega
      rw [w1]
      by_cases hz : c.f2 = (t.length : Int)
      case neg =>
        rw [show prs nmOk (n + 1 + 1) d (c :: t) = none from by unfold prs; rw [if_pos (Or.inr hz)]]
        have : (c.f2 != (t.length : Int)) = true := bne_iff_ne.mpr hz
        rw [this]
        exact bad
      have hb : (c.f2 != (t.length : Int)) = false := bne_eq_false_iff_eq.mpr hz
      rw [hb]
      refine Ev.step ?_
      simp only [spec_l7Ok.j0]
      refine Ev.neg (by simp) ?_
      have w2 : Unit → wrap64 ((d : Int) + 1) = ((d + 1 : Nat) : Int) := fun _ => upN d (by omega)
      clear w1
      have key : ∀ (m : Nat) (x i : Nat), i + m = t.length + 1 → 1 ≤ i → x ≤ i → Ev (fun k => spec_l7Ok.l0 k (c :: t) (d : Int) (x : Int) (i : Int)) (match ptsF (prs nmOk (n + 1) (d + 1)) (m + 1) ((c :: t).drop i) with | none => false | some ts => nodeOk nmOk c (x + ts.length)) := by
        intro m
        induction m using Nat.strongRecOn with
        | _ m ihm =>
          intro x i him hi hx
          by_cases hm : m = 0
          · subst hm
            have e1 : (c :: t).drop i = [] := by rw [List.drop_eq_nil_iff, hlen]; omega
            rw [e1]
            exact l7tail_ev (c :: t) c (by simp) hc (d : Int) x (i : Int) (by rw [hlen]; omega)
          · have hi2 : i < (c :: t).length := by rw [hlen]; omega
            have e1 := List.drop_eq_getElem_cons hi2
            obtain ⟨y, hy⟩ : ∃ y, y = (c :: t)[i] := ⟨_, rfl⟩
            obtain ⟨u, hu⟩ : ∃ u, u = (c :: t).drop (i + 1) := ⟨_, rfl⟩
            have hul : u.length = m - 1 := by rw [hu, List.length_drop, hlen]; omega
            rw [← hy, ← hu] at e1
            have hrd : rd_T45 (c :: t) (i : Int) = y := by rw [rd45 _ i hi2, hy]
            have w3 : Unit → wrap64 ((wrap64 (((c :: t).length : Int) - (i : Int))) - 1) = ((m - 1 : Nat) : Int) := fun _ => by
              have := wsub (t.length + 1) i (by omega) (by omega)
              rw [hlen, this]; omega
            rw [e1]
            unfold ptsF
            by_cases hs : y.f2 < 0 ∨ y.f2 > (u.length : Int)
            · rw [if_pos hs]
              refine Ev.step ?_
              simp only [spec_l7Ok.l0, hrd, w3 ()]
              refine Ev.pos (by rw [hlen]; omega) (Ev.pos (by omega) ?_)
              by_cases hs1 : y.f2 < 0
              · exact Ev.pos hs1 Ev.pure
              · exact Ev.neg hs1 (Ev.pos (by omega) Ev.pure)
            · rw [if_neg hs]
              obtain ⟨z, hz2⟩ : ∃ z : Nat, y.f2 = (z : Int) := ⟨y.f2.toNat, by omega⟩
              have w4 : Unit → wrap64 ((wrap64 ((i : Int) + 1)) + (z : Int)) = ((i + 1 + z : Nat) : Int) := fun _ => by rw [upN i (by omega), wadd (i + 1) z (by omega)]
              have w5 : Unit → hi44 (c :: t) (i : Int) = ((i + 1 + z : Nat) : Int) := fun _ => by unfold hi44; rw [hrd, hz2]; exact w4 ()
              have w6 : Unit → wrap64 ((x : Int) + 1) = ((x + 1 : Nat) : Int) := fun _ => upN x (by omega)
              have e2 : ((c :: t).take (i + 1 + z)).drop i = y :: u.take z := by
                rw [List.drop_take, e1, show i + 1 + z - i = z + 1 by omega, List.take_succ_cons]
              have e3 : u.drop z = (c :: t).drop (i + 1 + z) := by rw [hu, List.drop_drop]
              have hcut := ih (d + 1) (y :: u.take z) (by rw [List.length_cons, List.length_take]; omega) (by rw [List.length_cons, List.length_take]; omega)
              rw [hz2, Int.toNat_natCast]
              refine Ev.step ?_
              simp only [spec_l7Ok.l0, hrd, w3 (), w5 (), hz2, w4 (), w6 (), w2 (), Int.toNat_natCast, e2]
              refine Ev.pos (by rw [hlen]; omega) (Ev.pos (by omega) (Ev.neg (by omega) (Ev.neg (by omega) (Ev.pos (by omega) (Ev.pos (by rw [hlen]; omega) (Ev.bind hcut ?_))))))
              cases hp : prs nmOk (n + 1) (d + 1) (y :: u.take z) with
              | none => exact Ev.neg (by simp) Ev.pure
              | some q =>
                refine Ev.pos rfl ?_
                have hnx := ihm (m - 1 - z) (by omega) (x + 1) (i + 1 + z) (by omega) (by omega) (by omega)
                have e4 : ptsF (prs nmOk (n + 1) (d + 1)) m (u.drop z) = ptsF (prs nmOk (n + 1) (d + 1)) (m - 1 - z + 1) ((c :: t).drop (i + 1 + z)) := by
                  rw [e3]
                  exact ptsF_enough _ _ _ _ _ (by rw [List.length_drop, hlen]; omega) (by rw [List.length_drop, hlen]; omega) (fun _ _ => rfl)
                rw [Option.bind_some, e4]
                cases hq : ptsF (prs nmOk (n + 1) (d + 1)) (m - 1 - z + 1) ((c :: t).drop (i + 1 + z)) with
                | none => rw [hq] at hnx; exact hnx
                | some ts =>
                  rw [hq] at hnx
                  have e5 : x + (q :: ts).length = x + 1 + ts.length := by rw [List.length_cons]; omega
                  simp only [Option.bind_some, e5]
                  exact hnx
      have fin := key t.length 0 1 (by omega) (by omega) (by omega)
      have e6 : (prs nmOk (n + 1 + 1) d (c :: t)).isSome = (match ptsF (prs nmOk (n + 1) (d + 1)) (t.length + 1) ((c :: t).drop 1) with | none => false | some ts => nodeOk nmOk c (0 + ts.length)) := by
        have e7 : (c :: t).drop 1 = t := rfl
        rw [e7]
        unfold prs
        rw [if_neg (by omega), ptsF_enough _ (prs nmOk (n + 1) (d + 1)) (n + 1 + 1) (t.length + 1) t (by omega) (by omega) (fun _ _ => rfl)]
        cases ptsF (prs nmOk (n + 1) (d + 1)) (t.length + 1) t with
        | none => rfl
        | some ts =>
          simp only [Option.bind_some, Nat.zero_add]
          cases nodeOk nmOk c ts.length <;> rfl
      rw [e6]
      exact fin
theorem specCondOk_ev (cs : List S45) : Ev (fun k => spec_CondOk.f k cs) (treeOf cs).isSome := by
  unfold spec_CondOk.f treeOf
  by_cases hl : cs.length ≤ 300
  · rw [if_pos hl]
    exact Ev.pos (by omega) (Ev.bind (l7_ev cs.length 0 cs (Nat.le_refl _) hl) Ev.pure)
  · rw [if_neg hl]
    exact Ev.neg (by omega) Ev.pure

-- TreeT
mutual
/-- Is each node one? -/
def okT : CT → Bool
  | .node k n ks => nodeOk nmOk ⟨k, n, 0⟩ ks.length && okTs ks
def okTs : List CT → Bool
  | [] => true
  | t :: ts => okT t && okTs ts
end
theorem ptsF_ok (p : List S45 → Option CT) (hp : ∀ l t, p l = some t → okT t = true) : ∀ n l ts, ptsF p n l = some ts → okTs ts = true := by
  intro n
  induction n with
  | zero => intro l ts h; simp [ptsF] at h
  | succ n ih =>
    intro l ts h
    cases l with
    | nil => simp [ptsF] at h; subst h; simp [okTs]
    | cons c l =>
      unfold ptsF at h
      split at h
      · simp at h
      · obtain ⟨t, h1, h⟩ := Option.bind_eq_some_iff.mp h
        obtain ⟨ts', h2, h⟩ := Option.bind_eq_some_iff.mp h
        simp at h; subst h
        simp [okTs, hp _ _ h1, ih _ _ h2]
theorem prs_ok : ∀ n d l t, prs nmOk n d l = some t → okT t = true := by
  intro n
  induction n with
  | zero => intro d l t h; simp [prs] at h
  | succ n ih =>
    intro d l t h
    cases l with
    | nil => simp [prs] at h
    | cons c l =>
      unfold prs at h
      split at h
      · simp at h
      · obtain ⟨ts, h1, h⟩ := Option.bind_eq_some_iff.mp h
        split at h
        · rename_i hn
          simp at h; subst h
          rw [okT, ptsF_ok _ (fun l t ht => ih (d + 1) l t ht) _ _ _ h1, Bool.and_true]
          exact hn
        · simp at h
theorem treeOf_flat {l : List S45} {t : CT} (h : treeOf l = some t) : CT.flat t = l ∧ okT t = true ∧ l.length ≤ 300 := by
  unfold treeOf at h
  by_cases hl : l.length ≤ 300
  · rw [if_pos hl] at h
    exact ⟨prs_flat _ _ _ _ _ h, prs_ok _ _ _ _ h, hl⟩
  · rw [if_neg hl] at h; cases h
theorem flat_eq (t : CT) : CT.flat t = ⟨t.kind, t.name, ((CT.flats t.kids).length : Int)⟩ :: CT.flats t.kids := by cases t; rw [CT.flat]; rfl
theorem okT_eq (t : CT) : okT t = (nodeOk nmOk ⟨t.kind, t.name, 0⟩ t.kids.length && okTs t.kids) := by cases t; rw [okT]; rfl
theorem okT_kind {t : CT} (h : okT t = true) : (t.kind = 1 ∧ t.kids = []) ∨ ((t.kind = 2 ∨ t.kind = 3) ∧ t.kids = []) ∨ (t.kind = 4 ∧ ∃ u, t.kids = [u]) ∨ t.kind = 5 ∨ t.kind = 6 := by
  rw [okT_eq, Bool.and_eq_true] at h
  have h := h.1
  unfold nodeOk at h
  by_cases k1 : t.kind = 1
  · rw [if_pos k1] at h
    have h0 : t.kids.length = 0 := by
      by_cases h0 : t.kids.length = 0
      · exact h0
      · rw [decide_eq_false h0] at h; simp at h
    exact Or.inl ⟨k1, List.length_eq_zero_iff.1 h0⟩
  · rw [if_neg k1] at h
    simp only [Bool.and_eq_true, Bool.or_eq_true, decide_eq_true_eq] at h
    obtain ⟨_, (⟨a, b⟩ | ⟨a, b⟩) | ⟨a, b⟩⟩ := h
    · exact Or.inr (Or.inl ⟨a, List.length_eq_zero_iff.1 b⟩)
    · exact Or.inr (Or.inr (Or.inl ⟨a, List.length_eq_one_iff.1 b⟩))
    · exact Or.inr (Or.inr (Or.inr a))
/-- The first of what is left of a row. -/
theorem drop_head {l : List S45} {i : Nat} {x : S45} {r : List S45} (h : l.drop i = x :: r) : i < l.length ∧ rd_T45 l (i : Int) = x ∧ l.drop (i + 1) = r := by
  have hi : i < l.length := by
    rcases Nat.lt_or_ge i l.length with c | c
    · exact c
    · rw [List.drop_eq_nil_iff.2 c] at h; cases h
  rw [List.drop_eq_getElem_cons hi] at h
  injection h with h1 h2
  exact ⟨hi, by rw [rd45 l i hi]; exact h1, h2⟩
/-- Where the parts begin. -/
def startsOf : Nat → List CT → List Int
  | _, [] => []
  | i, t :: ts => (i : Int) :: startsOf (i + (CT.flat t).length) ts
theorem part_at {l : List S45} {i : Nat} {u : CT} {us : List CT} (h : l.drop i = CT.flat u ++ CT.flats us) : i < l.length ∧ (rd_T45 l (i : Int)).f2 = (((CT.flat u).length - 1 : Nat) : Int) ∧ 0 < (CT.flat u).length ∧ i + (CT.flat u).length ≤ l.length ∧ (l.take (i + (CT.flat u).length)).drop i = CT.flat u ∧ l.drop (i + (CT.flat u).length) = CT.flats us := by
  have hf := flat_eq u
  have h1 := h
  rw [hf, List.cons_append] at h1
  obtain ⟨a, b, _⟩ := drop_head h1
  have hp : 0 < (CT.flat u).length := by rw [hf]; simp
  have hlen := congrArg List.length h
  rw [List.length_drop, List.length_append] at hlen
  refine ⟨a, ?_, hp, by omega, ?_, ?_⟩
  · rw [b]
    have : (CT.flat u).length = (CT.flats u.kids).length + 1 := by rw [hf]; rfl
    show ((CT.flats u.kids).length : Int) = _
    rw [this]; simp
  · rw [List.drop_take, h, show i + (CT.flat u).length - i = (CT.flat u).length by omega, List.take_left]
  · rw [← List.drop_drop, h, List.drop_left]
theorem starts_go (l : List S45) (hl : l.length ≤ 301) (h2 : (rd_T45 l 0).f2 = ((l.length - 1 : Nat) : Int)) : ∀ (us : List CT) (i : Nat) (out : List Int), l.drop i = CT.flats us → 1 ≤ i → i ≤ l.length → out.length ≤ i →
    Ev (fun k => spec_l7Starts.l0 k l out (i : Int)) (out ++ startsOf i us) := by
  intro us
  induction us with
  | nil =>
    intro i out h a b c
    rw [CT.flats, List.drop_eq_nil_iff] at h
    have w1 : wrap64 (1 + ((l.length - 1 : Nat) : Int)) = (l.length : Int) := by rw [w64 _ (by omega) (by omega)]; omega
    refine Ev.step ?_
    simp only [spec_l7Starts.l0, h2, w1, startsOf, List.append_nil]
    exact Ev.pos (by omega) (Ev.neg (by omega) Ev.pure)
  | cons u us ih =>
    intro i out h a b c
    rw [CT.flats] at h
    obtain ⟨p1, p2, p3, p4, _, p6⟩ := part_at h
    have w1 : Unit → wrap64 (1 + ((l.length - 1 : Nat) : Int)) = (l.length : Int) := fun _ => by rw [w64 _ (by omega) (by omega)]; omega
    have w2 : Unit → wrap64 ((wrap64 ((i : Int) + 1)) + (((CT.flat u).length - 1 : Nat) : Int)) = ((i + (CT.flat u).length : Nat) : Int) := fun _ => by rw [upN i (by omega), wadd _ _ (by omega)]; congr 1; omega
    have hn := ih (i + (CT.flat u).length) (out ++ [(i : Int)]) p6 (by omega) p4 (by rw [List.length_append, List.length_singleton]; omega)
    rw [List.append_assoc, List.singleton_append] at hn
    refine Ev.step ?_
    simp only [spec_l7Starts.l0, h2, w1 (), p2, w2 (), startsOf]
    exact Ev.pos (by omega) (Ev.pos (by omega) (Ev.pos (by omega) (Ev.pos (by omega) (Ev.pos (by omega) hn))))
theorem starts_ev (t : CT) (hl : (CT.flat t).length ≤ 301) : Ev (fun k => spec_l7Starts.f k (CT.flat t)) (startsOf 1 t.kids) := by
  have hf := flat_eq t
  unfold spec_l7Starts.f
  have := starts_go (CT.flat t) hl (by rw [hf]; rfl) t.kids 1 [] (by rw [hf]; rfl) (Nat.le_refl _) (by rw [hf]; simp) (by simp)
  simpa using this
theorem startsOf_drop (ts : List CT) : ∀ (i : Nat) (us : List CT), ∃ x, (startsOf i (ts ++ us)).drop ts.length = startsOf x us ∧ x = i + (CT.flats ts).length := by
  induction ts with
  | nil => intro i us; exact ⟨i, by simp, by simp [CT.flats]⟩
  | cons t ts ih =>
    intro i us
    obtain ⟨x, h1, h2⟩ := ih (i + (CT.flat t).length) us
    exact ⟨x, by simpa [startsOf] using h1, by rw [h2, CT.flats, List.length_append]; omega⟩
theorem startsOf_len (ts : List CT) : ∀ i, (startsOf i ts).length = ts.length := by
  induction ts with
  | nil => intro i; rfl
  | cons t ts ih => intro i; simp [startsOf, ih]
theorem flats_len (ts : List CT) : ts.length ≤ (CT.flats ts).length := by
  induction ts with
  | nil => simp [CT.flats]
  | cons t ts ih =>
    rw [CT.flats, List.length_append, List.length_cons, flat_eq, List.length_cons]
    omega
theorem hi44_at (l : List S45) (x n : Nat) (h0 : 0 < n) (h : x + n ≤ 1000000) (h2 : (rd_T45 l (x : Int)).f2 = ((n - 1 : Nat) : Int)) : hi44 l (x : Int) = ((x + n : Nat) : Int) := by
  unfold hi44
  rw [h2, upN x (by omega), wadd _ _ (by omega)]
  congr 1
  omega
theorem okTs_mem {ts : List CT} (h : okTs ts = true) : ∀ u ∈ ts, okT u = true := by
  induction ts with
  | nil => intro u hu; cases hu
  | cons t ts ih =>
    rw [okTs, Bool.and_eq_true] at h
    intro u hu
    rcases List.mem_cons.1 hu with rfl | hu
    · exact h.1
    · exact ih h.2 u hu
theorem flat_mem {ts : List CT} : ∀ u ∈ ts, (CT.flat u).length ≤ (CT.flats ts).length ∧ ∀ e ∈ CT.flat u, e ∈ CT.flats ts := by
  induction ts with
  | nil => intro u hu; cases hu
  | cons t ts ih =>
    intro u hu
    rw [CT.flats, List.length_append]
    rcases List.mem_cons.1 hu with rfl | hu
    · exact ⟨by omega, fun e he => List.mem_append_left _ he⟩
    · obtain ⟨a, b⟩ := ih u hu
      exact ⟨by omega, fun e he => List.mem_append_right _ (b e he)⟩

-- MarkX
theorem markText_go (d : Nat) (hd : d ≤ 16) : ∀ (x : Int) (s : ByteArray), 0 ≤ x → x < 10 ^ d → s.size + d ≤ 100 → ∃ r, Ev (fun k => laws_markText.l0 k x s) r := by
  induction d with
  | zero =>
    intro x s h0 h1 h2
    refine ⟨(⟨#[109]⟩ : ByteArray) ++ s, Ev.step ?_⟩
    simp only [laws_markText.l0]
    exact Ev.neg (by simp at h1; omega) (Ev.pos (by omega) Ev.pure)
  | succ d ih =>
    intro x s h0 h1 h2
    by_cases c : x > 0
    · have hp : (10 : Int) ^ (d + 1) = 10 ^ d * 10 := Int.pow_succ 10 d
      have hm : (10 : Int) ^ (d + 1) ≤ 10 ^ 16 := by
        have := Nat.pow_le_pow_right (n := 10) (by omega) hd
        exact_mod_cast this
      have hm2 : (10 : Int) ^ 16 = 10000000000000000 := by decide
      have hq : Int.tdiv x 10 = x / 10 := Int.tdiv_eq_ediv_of_nonneg h0
      have hs : (strOfNums [(wrap64 (48 + (Int.tmod x 10))) % 256]).size = 1 := by rw [strOfNums_size]; rfl
      have hw : wrap64 (Int.tdiv x 10) = x / 10 := by rw [hq]; exact w64 _ (by omega) (by omega)
      obtain ⟨r, hr⟩ := ih (by omega) (x / 10) (strOfNums [(wrap64 (48 + (Int.tmod x 10))) % 256] ++ s) (by omega) (by omega) (by rw [ByteArray.size_append, hs]; omega)
      refine ⟨r, Ev.step ?_⟩
      simp only [laws_markText.l0, hw]
      clear hw
      exact Ev.pos c (Ev.cons rfl (Ev.pos (by rw [hs]; omega) hr))
    · refine ⟨(⟨#[109]⟩ : ByteArray) ++ s, Ev.step ?_⟩
      simp only [laws_markText.l0]
      exact Ev.neg c (Ev.pos (by omega) Ev.pure)
theorem markText_ex (x : Int) (h1 : x < 10000000000000000) : ∃ r, Ev (fun k => laws_markText.f k x) r := by
  unfold laws_markText.f
  by_cases c : x ≤ 0
  · exact ⟨_, Ev.pos c Ev.pure⟩
  · obtain ⟨r, hr⟩ := markText_go 16 (by omega) x (⟨#[]⟩ : ByteArray) (by omega) (by rw [show (10 : Int) ^ 16 = 10000000000000000 by decide]; omega) (by decide)
    exact ⟨r, Ev.neg c hr⟩
open Classical in
/-- The mark's text. -/
noncomputable def mtx (x : Int) : ByteArray := if h : ∃ r, Ev (fun k => laws_markText.f k x) r then h.choose else ByteArray.empty
theorem markText_ev (x : Int) (h1 : x < 10000000000000000) : Ev (fun k => laws_markText.f k x) (mtx x) := by
  have h := markText_ex x h1
  unfold mtx
  rw [dif_pos h]
  exact h.choose_spec

-- MarkC
/-- The marks from the first on. -/
def MarkedC (y : List S45) (n : Nat) : Prop := ∀ (i : Nat) (h : i < y.length), i < n → y[i] = ⟨1 + 3 * (i : Int), mtx (2 + 3 * (i : Int)), 3 + 3 * (i : Int)⟩
theorem wmk (i c : Nat) (h : i ≤ 2000000) (hc : c ≤ 3) : wrap64 (((c : Int) + 3 * (i : Int)) + 1) = ((c + 1 : Nat) : Int) + 3 * (i : Int) := by rw [w64 _ (by omega) (by omega)]; omega
theorem markCondS_ev (x : List S45) (hx : x.length ≤ 2000000) : ∃ y, y.length = x.length ∧ MarkedC y x.length ∧ Ev (fun k => laws_markCondS.f k x 1) (1 + 3 * (x.length : Int), y) := by
  have key := downTo x.length (fun i => ∀ y : List S45, y.length = x.length → MarkedC y i → ∃ z, z.length = x.length ∧ MarkedC z x.length ∧ Ev (fun k => laws_markCondS.l0 k y (1 + 3 * (i : Int)) (i : Int)) (1 + 3 * (x.length : Int), z)) ?_ ?_ 0 (by omega)
  · obtain ⟨z, z1, z2, z3⟩ := key x rfl (fun i _ h => by omega)
    refine ⟨z, z1, z2, ?_⟩
    unfold laws_markCondS.f
    simpa using z3
  · intro y hy hm
    refine ⟨y, hy, hm, Ev.step ?_⟩
    simp only [laws_markCondS.l0]
    exact Ev.neg (by omega) Ev.pure
  · intro i hi ih y hy hm
    have hiy : i < y.length := by omega
    have w1 : wrap64 ((1 + 3 * (i : Int)) + 1) = 2 + 3 * (i : Int) := wmk i 1 (by omega) (by omega)
    have w2 : wrap64 ((2 + 3 * (i : Int)) + 1) = 3 + 3 * (i : Int) := wmk i 2 (by omega) (by omega)
    have w3 : wrap64 ((3 + 3 * (i : Int)) + 1) = 1 + 3 * ((i + 1 : Nat) : Int) := by rw [w64 _ (by omega) (by omega)]; omega
    obtain ⟨z, z1, z2, z3⟩ := ih (y.set i ⟨1 + 3 * (i : Int), mtx (2 + 3 * (i : Int)), 3 + 3 * (i : Int)⟩) (by simpa using hy) (fun j h hj => by
      rw [List.getElem_set]
      split
      · rename_i e
        subst e
        rfl
      · exact hm j (by simpa using h) (by omega))
    refine ⟨z, z1, z2, Ev.step ?_⟩
    have r1 : ∀ (a : S45), rd_T45 (y.set i a) (i : Int) = a := fun a => by rw [rd45 _ i (by simpa using hiy)]; simp
    have hu : i < 1000000000000000 := by omega
    simp only [laws_markCondS.l0, w1, w2, w3, Int.toNat_natCast, Option.bind_some, r1, List.set_set, upN i hu]
    exact Ev.pos (by omega) (Ev.pos (by omega) (Ev.bind (markText_ev _ (by omega)) z3))
theorem heldCondS_ev (y : List S45) (hy : y.length ≤ 2000000) (hm : MarkedC y y.length) : Ev (fun k => laws_heldCondS.f k y 1) (1 + 3 * (y.length : Int)) := by
  have key := downTo y.length (fun i => Ev (fun k => laws_heldCondS.l0 k y (1 + 3 * (i : Int)) (i : Int)) (1 + 3 * (y.length : Int))) ?_ ?_ 0 (by omega)
  · unfold laws_heldCondS.f
    simpa using key
  · refine Ev.step ?_
    simp only [laws_heldCondS.l0]
    exact Ev.neg (by omega) Ev.pure
  · intro i hi ih
    have w1 : wrap64 ((1 + 3 * (i : Int)) + 1) = 2 + 3 * (i : Int) := wmk i 1 (by omega) (by omega)
    have w2 : wrap64 ((2 + 3 * (i : Int)) + 1) = 3 + 3 * (i : Int) := wmk i 2 (by omega) (by omega)
    have w3 : wrap64 ((3 + 3 * (i : Int)) + 1) = 1 + 3 * ((i + 1 : Nat) : Int) := by rw [w64 _ (by omega) (by omega)]; omega
    have hu : i < 1000000000000000 := by omega
    refine Ev.step ?_
    simp only [laws_heldCondS.l0, w1, w2, w3, rd45 y i hi, hm i hi hi, upN i hu]
    exact Ev.pos (by omega) (Ev.pos (by omega) (Ev.pos trivial (Ev.bind (markText_ev _ (by omega)) (Ev.pos rfl (Ev.pos trivial ih)))))

-- PlainT
mutual
/-- The plain form of a tree, turned or not. -/
def plT (nt : Bool) : CT → CT
  | .node k n ks => if k = 1 then (if nt = true then .node 4 ⟨#[]⟩ [.node k n ks] else .node k n ks) else if k = 2 ∨ k = 3 then (if nt = true then .node (5 - k) ⟨#[]⟩ [] else .node k n ks) else if k = 4 then plHead (!nt) ks else .node (if nt = true then 11 - k else k) ⟨#[]⟩ (plTs nt (if nt = true then 11 - k else k) ks)
def plHead (nt : Bool) : List CT → CT
  | [] => .node 0 ⟨#[]⟩ []
  | t :: _ => plT nt t
def plTs (nt : Bool) (K : Int) : List CT → List CT
  | [] => []
  | t :: ts => (if (plT nt t).kind = K then (plT nt t).kids else [plT nt t]) ++ plTs nt K ts
end
theorem plT_eq (nt : Bool) (t : CT) : plT nt t = if t.kind = 1 then (if nt = true then .node 4 ⟨#[]⟩ [t] else t) else if t.kind = 2 ∨ t.kind = 3 then (if nt = true then .node (5 - t.kind) ⟨#[]⟩ [] else t) else if t.kind = 4 then plHead (!nt) t.kids else .node (if nt = true then 11 - t.kind else t.kind) ⟨#[]⟩ (plTs nt (if nt = true then 11 - t.kind else t.kind) t.kids) := by cases t; rw [plT]; rfl
theorem flats_one (t : CT) : CT.flats [t] = CT.flat t := by rw [CT.flats, CT.flats, List.append_nil]
theorem flat_pos (t : CT) : 0 < (CT.flat t).length := by rw [flat_eq]; simp
theorem plTs_len (nt : Bool) (K : Int) (ts : List CT) (h : ∀ u ∈ ts, (CT.flat (plT nt u)).length ≤ 2 * (CT.flat u).length) : (CT.flats (plTs nt K ts)).length ≤ 2 * (CT.flats ts).length := by
  induction ts with
  | nil => simp [plTs, CT.flats]
  | cons u us ih =>
    rw [plTs, flats_append, List.length_append, CT.flats, List.length_append]
    have h1 := h u (by simp)
    have h2 := ih (fun v hv => h v (by simp [hv]))
    split
    · have : (CT.flat (plT nt u)).length = (CT.flats (plT nt u).kids).length + 1 := by rw [flat_eq]; rfl
      omega
    · rw [flats_one]; omega
theorem plT_len : ∀ (N : Nat) (t : CT), (CT.flat t).length ≤ N → okT t = true → ∀ nt, (CT.flat (plT nt t)).length ≤ 2 * (CT.flat t).length := by
  intro N
  induction N with
  | zero => intro t h; have := flat_pos t; omega
  | succ N ih =>
    intro t h1 h3 nt
    have hf := flat_eq t
    have hl : (CT.flat t).length = (CT.flats t.kids).length + 1 := by rw [hf]; rfl
    have hk := okT_kind h3
    rw [okT_eq, Bool.and_eq_true] at h3
    have kid : ∀ u ∈ t.kids, ∀ b, (CT.flat (plT b u)).length ≤ 2 * (CT.flat u).length := fun u hu b => by
      have := (flat_mem u hu).1
      exact ih u (by omega) (okTs_mem h3.2 u hu) b
    rw [plT_eq]
    split
    · split
      · rw [CT.flat, flats_one, List.length_cons]; have := flat_pos t; omega
      · omega
    · split
      · split
        · rw [CT.flat, CT.flats]; simp; omega
        · omega
      · split
        · rename_i k1 k2 k4
          obtain ⟨u, hu⟩ : ∃ u, t.kids = [u] := by
            rcases hk with h | h | h | h | h
            · omega
            · omega
            · exact h.2
            · omega
            · omega
          have h5 := kid u (by rw [hu]; simp) (!nt)
          rw [hu, flats_one] at hl
          rw [hu, plHead]
          omega
        · have := plTs_len nt (if nt = true then 11 - t.kind else t.kind) t.kids (fun u hu => kid u hu nt)
          rw [CT.flat, List.length_cons]
          omega
theorem flL_ev : ∀ (us ps : List CT) (ts : List CT) (l : List S45) (f : Nat → CT → List S45 → Option (List S45)), ts.length ≤ 100000 → ts = ps ++ us → (∀ u ∈ ts, ∀ r : List S45, r.length + (CT.flat u).length ≤ l.length + (CT.flats us).length → Ev (fun k => f k u r) (r ++ CT.flat u)) →
    Ev (fun k => flL (f k) k ts ((ps.length : Nat) : Int) l) (l ++ CT.flats us) := by
  intro us
  induction us with
  | nil =>
    intro ps ts l f _ he _
    have hn : ts.length = ps.length := by rw [he]; simp
    refine Ev.step ?_
    simp only [flL, CT.flats, List.append_nil]
    exact Ev.neg (by omega) Ev.pure
  | cons u us ih =>
    intro ps ts l f ht he hf
    have hn : ts.length = ps.length + (us.length + 1) := by rw [he]; simp
    have hg : ts.getD ((ps.length : Nat) : Int).toNat (.node 0 ⟨#[]⟩ []) = u := by rw [he]; simp [List.getD_eq_getElem?_getD]
    rw [CT.flats, List.length_append] at hf
    have h1 := hf u (by rw [he]; simp) l (by omega)
    have hnx := ih (ps ++ [u]) ts (l ++ CT.flat u) (fun k => f (k + 1)) ht (by rw [he]; simp) (fun v hv r hr => (hf v hv r (by rw [List.length_append] at hr; omega)).shift)
    rw [List.length_append, List.length_singleton] at hnx
    have hu : ps.length < 1000000000000000 := by omega
    refine Ev.step ?_
    simp only [flL, hg, upN ps.length hu, CT.flats, ← List.append_assoc]
    exact Ev.pos (by omega) (Ev.pos (by omega) (Ev.bind h1.shift hnx))
theorem ctFlat_ev : ∀ (N : Nat) (t : CT) (l : List S45), (CT.flat t).length ≤ N → l.length + (CT.flat t).length ≤ 90000 → Ev (fun k => ctFlat k t l) (l ++ CT.flat t) := by
  intro N
  induction N with
  | zero => intro t l h; have := flat_pos t; omega
  | succ N ih =>
    intro t l h1 h2
    have hf := flat_eq t
    have hl : (CT.flat t).length = (CT.flats t.kids).length + 1 := by rw [hf]; rfl
    have hkl : t.kids.length ≤ 100000 := by have := flats_len t.kids; omega
    have go := flL_ev t.kids [] t.kids (l ++ [⟨t.kind, t.name, 0⟩]) (fun k x r => ctFlat k x r) hkl rfl (fun u hu r hr => by
      have := (flat_mem u hu).1
      rw [List.length_append, List.length_singleton] at hr
      exact ih u r (by omega) (by omega))
    have hlen : (l ++ [(⟨t.kind, t.name, 0⟩ : S45)] ++ CT.flats t.kids).length = l.length + (CT.flats t.kids).length + 1 := by simp; omega
    have hrd : rd_T45 (l ++ [(⟨t.kind, t.name, 0⟩ : S45)] ++ CT.flats t.kids) (l.length : Int) = ⟨t.kind, t.name, 0⟩ := by
      rw [rd45 _ l.length (by rw [hlen]; omega)]
      simp
    have hw : wrap64 (wrap64 (((l ++ [(⟨t.kind, t.name, 0⟩ : S45)] ++ CT.flats t.kids).length : Int) - (l.length : Int)) - 1) = ((CT.flats t.kids).length : Int) := by
      rw [hlen]
      have e : ((l.length + (CT.flats t.kids).length + 1 : Nat) : Int) - (l.length : Int) = ((CT.flats t.kids).length : Int) + 1 := by omega
      rw [e, w64 (((CT.flats t.kids).length : Int) + 1) (by omega) (by omega), w64 _ (by omega) (by omega)]
      omega
    refine Ev.step ?_
    simp only [ctFlat]
    refine Ev.pos (by omega) (Ev.bind go (Ev.pos (by rw [hlen]; omega) ?_))
    rw [hrd, hw, hf]
    have e : (l ++ [(⟨t.kind, t.name, 0⟩ : S45)] ++ CT.flats t.kids).set l.length ⟨t.kind, t.name, ((CT.flats t.kids).length : Int)⟩ = l ++ ⟨t.kind, t.name, ((CT.flats t.kids).length : Int)⟩ :: CT.flats t.kids := by simp
    rw [e]
    exact Ev.pure
theorem plL_ev (nt : Bool) (K : Int) (ts : List CT) (hl : (CT.flats ts).length ≤ 300) (hb : ∀ u ∈ ts, (CT.flat (plT nt u)).length ≤ 2 * (CT.flat u).length) : ∀ (us ps : List CT) (acc : List CT) (f : Nat → CT → Option CT), ts = ps ++ us → acc.length ≤ 2 * (CT.flats ps).length → (∀ u ∈ ts, Ev (fun k => f k u) (plT nt u)) →
    Ev (fun k => plL (f k) K k ts ((ps.length : Nat) : Int) acc) (acc ++ plTs nt K us) := by
  intro us
  induction us with
  | nil =>
    intro ps acc f he _ _
    have hn : ts.length = ps.length := by rw [he]; simp
    refine Ev.step ?_
    simp only [plL, plTs, List.append_nil]
    exact Ev.neg (by omega) Ev.pure
  | cons u us ih =>
    intro ps acc f he ha hf
    have hn : ts.length = ps.length + (us.length + 1) := by rw [he]; simp
    have hg : ts.getD ((ps.length : Nat) : Int).toNat (.node 0 ⟨#[]⟩ []) = u := by rw [he]; simp [List.getD_eq_getElem?_getD]
    have hmu : u ∈ ts := by rw [he]; simp
    have h1 := hf u hmu
    have h2 := hb u hmu
    have h3 : (CT.flats ts).length = (CT.flats ps).length + (CT.flat u).length + (CT.flats us).length := by rw [he, flats_append, CT.flats]; simp; omega
    have h4 : (plT nt u).kids.length + 1 ≤ (CT.flat (plT nt u)).length := by
      have := flats_len (plT nt u).kids
      rw [flat_eq]; simp; omega
    have h5 : (CT.flats (ps ++ [u])).length = (CT.flats ps).length + (CT.flat u).length := by rw [flats_append, flats_one, List.length_append]
    have hpl : ps.length < 1000000000000000 := by have := flats_len ts; omega
    have hp := flat_pos u
    refine Ev.step ?_
    simp only [plL, hg, upN ps.length hpl, plTs]
    refine Ev.pos (by omega) (Ev.pos (by omega) (Ev.bind h1.shift ?_))
    by_cases hk : (plT nt u).kind = K
    · rw [if_pos hk]
      have hnx := ih (ps ++ [u]) (acc ++ (plT nt u).kids) (fun k => f (k + 1)) (by rw [he]; simp) (by rw [List.length_append]; omega) (fun v hv => (hf v hv).shift)
      rw [@List.length_append _ ps, List.length_singleton, List.append_assoc] at hnx
      exact Ev.pos hk (Ev.pos (by omega) hnx)
    · rw [if_neg hk]
      have hnx := ih (ps ++ [u]) (acc ++ [plT nt u]) (fun k => f (k + 1)) (by rw [he]; simp) (by rw [List.length_append, List.length_singleton]; omega) (fun v hv => (hf v hv).shift)
      rw [@List.length_append _ ps, List.length_singleton, List.append_assoc] at hnx
      exact Ev.neg hk (Ev.pos (by omega) hnx)
theorem ctPlain_ev : ∀ (N : Nat) (t : CT), (CT.flat t).length ≤ N → (CT.flat t).length ≤ 300 → okT t = true → ∀ nt, Ev (fun k => ctPlain k t nt) (plT nt t) := by
  intro N
  induction N with
  | zero => intro t h; have := flat_pos t; omega
  | succ N ih =>
    intro t h1 h2 h3 nt
    have hf := flat_eq t
    have hl : (CT.flat t).length = (CT.flats t.kids).length + 1 := by rw [hf]; rfl
    have hk := okT_kind h3
    rw [okT_eq, Bool.and_eq_true] at h3
    have kid : ∀ u ∈ t.kids, ∀ b, Ev (fun k => ctPlain k u b) (plT b u) := fun u hu b => by
      have := (flat_mem u hu).1
      exact ih u (by omega) (by omega) (okTs_mem h3.2 u hu) b
    have klen : ∀ u ∈ t.kids, (CT.flat (plT nt u)).length ≤ 2 * (CT.flat u).length := fun u hu => plT_len _ u (Nat.le_refl _) (okTs_mem h3.2 u hu) nt
    rw [plT_eq]
    refine Ev.step ?_
    simp only [ctPlain]
    by_cases k1 : t.kind = 1
    · rw [if_pos k1]
      refine Ev.pos k1 ?_
      cases nt
      · exact Ev.neg (by simp) Ev.pure
      · exact Ev.pos rfl Ev.pure
    refine Ev.neg k1 ?_
    rw [if_neg k1]
    by_cases k2 : t.kind = 2
    · rw [if_pos (Or.inl k2)]
      refine Ev.pos k2 ?_
      cases nt
      · exact Ev.neg (by simp) Ev.pure
      · refine Ev.pos rfl ?_
        rw [w64 (5 - t.kind) (by omega) (by omega)]
        exact Ev.pure
    refine Ev.neg k2 ?_
    by_cases k3 : t.kind = 3
    · rw [if_pos (Or.inr k3)]
      refine Ev.pos k3 ?_
      cases nt
      · exact Ev.neg (by simp) Ev.pure
      · refine Ev.pos rfl ?_
        rw [w64 (5 - t.kind) (by omega) (by omega)]
        exact Ev.pure
    refine Ev.neg k3 ?_
    rw [if_neg (show ¬ (t.kind = 2 ∨ t.kind = 3) from by omega)]
    by_cases k4 : t.kind = 4
    · rw [if_pos k4]
      obtain ⟨u, hu⟩ : ∃ u, t.kids = [u] := by
        rcases hk with h | h | h | h | h
        · omega
        · omega
        · exact h.2
        · omega
        · omega
      have hu0 : t.kids.getD 0 (.node 0 ⟨#[]⟩ []) = u := by rw [hu]; rfl
      refine Ev.pos k4 (Ev.pos (by rw [hu]; simp) ?_)
      rw [hu0, hu, plHead]
      exact kid u (by rw [hu]; simp) (!nt)
    refine Ev.neg k4 ?_
    rw [if_neg k4]
    have k56 : t.kind = 5 ∨ t.kind = 6 := by omega
    have hK : (if nt = true then wrap64 (11 - t.kind) else t.kind) = (if nt = true then 11 - t.kind else t.kind) := by
      split
      · rw [w64 _ (by omega) (by omega)]
      · rfl
    simp only [hK]
    have go := plL_ev nt (if nt = true then 11 - t.kind else t.kind) t.kids (by omega) klen t.kids [] [] (fun k x => ctPlain k x nt) rfl (by simp) (fun u hu => kid u hu nt)
    exact Ev.bind go Ev.pure
theorem implPlain_ev (cs : List S45) : Ev (fun k => impl_Plain.f k cs) (match treeOf cs with | none => [] | some t => CT.flat (plT false t)) := by
  unfold impl_Plain.f
  refine Ev.bind (tree_ev cs) ?_
  cases hq : treeOf cs with
  | none => exact Ev.pure
  | some t =>
    obtain ⟨q1, q2, q3⟩ := treeOf_flat hq
    rw [← q1] at q3
    have hb := plT_len _ t (Nat.le_refl _) q2 false
    have a := ctPlain_ev _ t (Nat.le_refl _) q3 q2 false
    have b := ctFlat_ev _ (plT false t) [] (Nat.le_refl _) (by simp; omega)
    exact Ev.bind a b

-- PlainS
theorem make_ev (k : Int) (l : List S45) (h : l.length ≤ 300) : spec_l7Make.f k l = some (⟨k, ⟨#[]⟩, (l.length : Int)⟩ :: l) := by
  unfold spec_l7Make.f
  simp only [Option.bind_some]
  rw [if_pos (by simp; omega), if_neg (by simp; omega)]
  rfl
theorem specPlain_go (nt : Bool) (K : Int) (l : List S45) (hl : l.length ≤ 300) (ts : List CT) (hts : l.drop 1 = CT.flats ts) (hb : ∀ u ∈ ts, (CT.flat (plT nt u)).length ≤ 2 * (CT.flat u).length)
    (ih : ∀ u ∈ ts, Ev (fun k => spec_l7Plain.f k (CT.flat u) nt) (CT.flat (plT nt u))) : ∀ (us ps : List CT) (acc : List S45), ts = ps ++ us → acc.length ≤ 2 * (CT.flats ps).length →
    Ev (fun k => spec_l7Plain.l0 k l nt K acc (startsOf 1 ts) ((ps.length : Nat) : Int)) (⟨K, ⟨#[]⟩, ((acc ++ CT.flats (plTs nt K us)).length : Int)⟩ :: (acc ++ CT.flats (plTs nt K us))) := by
  have hlen1 := congrArg List.length hts
  rw [List.length_drop] at hlen1
  intro us
  induction us with
  | nil =>
    intro ps acc he ha
    have hn : (startsOf 1 ts).length = ps.length := by rw [startsOf_len, he]; simp
    have h3 : (CT.flats ts).length = (CT.flats ps).length := by rw [he]; simp
    refine Ev.step ?_
    simp only [spec_l7Plain.l0, plTs, CT.flats, List.append_nil, Option.bind_some]
    refine Ev.neg (by rw [hn]; omega) (Ev.pos (by simp; omega) ?_)
    exact Ev.pure
  | cons u us ihu =>
    intro ps acc he ha
    have hlens : (startsOf 1 ts).length = ps.length + (us.length + 1) := by rw [startsOf_len, he]; simp
    obtain ⟨x, h1, h2⟩ := startsOf_drop ps 1 (u :: us)
    rw [← he, startsOf] at h1
    have hrd : rd (startsOf 1 ts) ((ps.length : Nat) : Int) = (x : Int) := by
      unfold rd
      rw [List.drop_eq_getElem_cons (by rw [hlens]; omega)] at h1
      injection h1 with h1 _
      simp [List.getD_eq_getElem?_getD, List.getElem?_eq_getElem (show ps.length < (startsOf 1 ts).length by rw [hlens]; omega), h1]
    have hd : l.drop x = CT.flat u ++ CT.flats us := by
      have e1 : l.drop x = (l.drop 1).drop (CT.flats ps).length := by rw [List.drop_drop, h2]
      rw [e1, hts, he, flats_append, List.drop_left, CT.flats]
    obtain ⟨p1, p2, p3, p4, p5, _⟩ := part_at hd
    have hpl : ps.length < 1000000000000000 := by
      rw [startsOf_len] at hlens
      have := flats_len ts
      omega
    have hxl : x + (CT.flat u).length ≤ 1000000 := by omega
    have hmu : u ∈ ts := by rw [he]; simp
    have hb1 := hb u hmu
    have h3 : (CT.flats ts).length = (CT.flats ps).length + (CT.flat u).length + (CT.flats us).length := by rw [he, flats_append, CT.flats]; simp; omega
    have h5 : (CT.flats (ps ++ [u])).length = (CT.flats ps).length + (CT.flat u).length := by rw [flats_append, flats_one, List.length_append]
    have hfp := flat_eq (plT nt u)
    have hfl : (CT.flat (plT nt u)).length = (CT.flats (plT nt u).kids).length + 1 := by rw [hfp]; rfl
    have hc0 : rd_T45 (CT.flat (plT nt u)) 0 = ⟨(plT nt u).kind, (plT nt u).name, ((CT.flats (plT nt u).kids).length : Int)⟩ := by rw [hfp]; rfl
    have hd1 : (CT.flat (plT nt u)).drop 1 = CT.flats (plT nt u).kids := by rw [hfp]; rfl
    have w5 : hi44 l (x : Int) = ((x + (CT.flat u).length : Nat) : Int) := hi44_at l x (CT.flat u).length p3 hxl p2
    refine Ev.step ?_
    simp only [spec_l7Plain.l0, hrd, w5, Int.toNat_natCast, p5, upN ps.length hpl, plTs]
    clear w5
    refine Ev.pos (by rw [hlens]; omega) (Ev.pos (by omega) (Ev.pos (by omega) (Ev.pos (by omega) (Ev.pos ⟨by omega, by omega⟩ (Ev.bind (ih u hmu) ?_)))))
    simp only [hc0, hd1, Option.bind_some]
    refine Ev.pos (by omega) ?_
    by_cases hk : (plT nt u).kind = K
    · have hnx := ihu (ps ++ [u]) (acc ++ CT.flats (plT nt u).kids) (by rw [he]; simp) (by rw [List.length_append]; omega)
      rw [@List.length_append _ ps, List.length_singleton, List.append_assoc, ← flats_append] at hnx
      rw [if_pos hk]
      exact Ev.pos hk (Ev.pos (by omega) (Ev.pos (by omega) hnx))
    · have hnx := ihu (ps ++ [u]) (acc ++ CT.flat (plT nt u)) (by rw [he]; simp) (by rw [List.length_append]; omega)
      rw [@List.length_append _ ps, List.length_singleton, List.append_assoc] at hnx
      have e : CT.flat (plT nt u) ++ CT.flats (plTs nt K us) = CT.flats ([plT nt u] ++ plTs nt K us) := by rw [flats_append, flats_one]
      rw [e] at hnx
      rw [if_neg hk]
      exact Ev.neg hk (Ev.pos (by omega) hnx)
theorem specPlainT_ev : ∀ (N : Nat) (t : CT), (CT.flat t).length ≤ N → (CT.flat t).length ≤ 300 → okT t = true → ∀ nt, Ev (fun k => spec_l7Plain.f k (CT.flat t) nt) (CT.flat (plT nt t)) := by
  intro N
  induction N with
  | zero => intro t h; have := flat_pos t; omega
  | succ N ih =>
    intro t h1 h2 h3 nt
    have hf := flat_eq t
    have hl : (CT.flat t).length = (CT.flats t.kids).length + 1 := by rw [hf]; rfl
    have hc : rd_T45 (CT.flat t) 0 = ⟨t.kind, t.name, ((CT.flats t.kids).length : Int)⟩ := by rw [hf]; rfl
    have hd : (CT.flat t).drop 1 = CT.flats t.kids := by rw [hf]; rfl
    have hk := okT_kind h3
    rw [okT_eq, Bool.and_eq_true] at h3
    have kid : ∀ u ∈ t.kids, ∀ b, Ev (fun k => spec_l7Plain.f k (CT.flat u) b) (CT.flat (plT b u)) := fun u hu b => by
      have := (flat_mem u hu).1
      exact ih u (by omega) (by omega) (okTs_mem h3.2 u hu) b
    have klen : ∀ u ∈ t.kids, (CT.flat (plT nt u)).length ≤ 2 * (CT.flat u).length := fun u hu => plT_len _ u (Nat.le_refl _) (okTs_mem h3.2 u hu) nt
    rw [plT_eq]
    refine Ev.step ?_
    simp only [spec_l7Plain.f, hc]
    refine Ev.pos (by omega) ?_
    by_cases k1 : t.kind = 1
    · rw [if_pos k1]
      refine Ev.pos k1 ?_
      cases nt
      · exact Ev.neg (by simp) Ev.pure
      · refine Ev.pos rfl (Ev.cons (make_ev 4 _ h2) ?_)
        rw [if_pos rfl, CT.flat, flats_one]
        exact Ev.pure
    refine Ev.neg k1 ?_
    rw [if_neg k1]
    have leaf : (t.kind = 2 ∨ t.kind = 3) → Ev (fun k => spec_l7Plain.j0 k (CT.flat t) nt t.kind t.kind true) (CT.flat (if nt = true then .node (5 - t.kind) ⟨#[]⟩ [] else t)) := fun hk2 => by
      refine Ev.step ?_
      simp only [spec_l7Plain.j0]
      refine Ev.pos trivial ?_
      cases nt
      · exact Ev.neg (by simp) Ev.pure
      · refine Ev.pos rfl ?_
        rw [w64 (5 - t.kind) (by omega) (by omega), if_pos rfl, CT.flat, CT.flats]
        exact Ev.pure
    by_cases k2 : t.kind = 2
    · rw [if_pos (Or.inl k2)]
      refine Ev.pos k2 ?_
      rw [show (t.kind == 2) = true from beq_iff_eq.mpr k2]
      exact leaf (Or.inl k2)
    refine Ev.neg k2 ?_
    by_cases k3 : t.kind = 3
    · rw [if_pos (Or.inr k3), show (t.kind == 3) = true from beq_iff_eq.mpr k3]
      exact leaf (Or.inr k3)
    rw [if_neg (show ¬ (t.kind = 2 ∨ t.kind = 3) from by omega), show (t.kind == 3) = false from beq_eq_false_iff_ne.mpr k3]
    refine Ev.step ?_
    simp only [spec_l7Plain.j0, hd]
    refine Ev.neg (by simp) ?_
    by_cases k4 : t.kind = 4
    · rw [if_pos k4]
      obtain ⟨u, hu⟩ : ∃ u, t.kids = [u] := by
        rcases hk with h | h | h | h | h
        · omega
        · omega
        · exact h.2
        · omega
        · omega
      refine Ev.pos k4 (Ev.pos (by omega) ?_)
      rw [hu, flats_one, plHead]
      exact Ev.bind (kid u (by rw [hu]; simp) (!nt)) Ev.pure
    refine Ev.neg k4 ?_
    rw [if_neg k4]
    have fin : ∀ K : Int, K = (if nt = true then 11 - t.kind else t.kind) → Ev (fun k => spec_l7Plain.j1 k (CT.flat t) nt K) (CT.flat (.node (if nt = true then 11 - t.kind else t.kind) ⟨#[]⟩ (plTs nt (if nt = true then 11 - t.kind else t.kind) t.kids))) := fun K hK => by
      rw [← hK, CT.flat]
      refine Ev.step ?_
      simp only [spec_l7Plain.j1]
      have go := specPlain_go nt K (CT.flat t) h2 t.kids hd klen (fun u hu => kid u hu nt) t.kids [] [] rfl (by simp)
      exact Ev.bind (starts_ev t (by omega)) go
    cases nt
    · exact Ev.neg (by simp) (fin _ rfl)
    · refine Ev.pos rfl ?_
      rw [w64 (11 - t.kind) (by omega) (by omega)]
      exact fin _ rfl
theorem specPlain_ev (cs : List S45) : Ev (fun k => spec_Plain.f k cs) (match treeOf cs with | none => [] | some t => CT.flat (plT false t)) := by
  unfold spec_Plain.f
  refine Ev.bind (specCondOk_ev cs) ?_
  cases hq : treeOf cs with
  | none => exact Ev.neg (by simp) Ev.pure
  | some t =>
    obtain ⟨q1, q2, q3⟩ := treeOf_flat hq
    rw [← q1] at q3
    have a := specPlainT_ev _ t (Nat.le_refl _) q3 q2 false
    have hb := plT_len _ t (Nat.le_refl _) q2 false
    rw [q1] at a
    refine Ev.pos rfl ?_
    simp only [Option.bind_some, List.nil_append, List.length_nil]
    exact Ev.bind a (Ev.pos (by omega) Ev.pure)

theorem FnExactPlain : laws_FnExactPlain.Pure := by
  intro l hl
  have mx : maxLen = 9223372036854775807 := by decide
  rw [mx] at hl
  refine Ev.at ?_
  unfold laws_FnExactPlain.f
  obtain ⟨t, ht, hl2, hl3⟩ := szCondS_ev l hl.1 1048576 (by omega) (by omega) (fun g hg => (hl.2 g hg).2.1)
  refine Ev.bind ht ?_
  by_cases h0 : t < 0
  · exact Ev.pos h0 Ev.pure
  refine Ev.neg h0 ?_
  obtain ⟨p1, p2⟩ := hl2 (by omega)
  have hc := toCondS_ev l p1
  have hlen : (l.map cCo).length ≤ 1048576 := by simpa using p1
  obtain ⟨r, hs, hi, hr⟩ : ∃ r, Ev (fun k => spec_Plain.f k (l.map cCo)) r ∧ Ev (fun k => impl_Plain.f k (l.map cCo)) r ∧ r.length ≤ 600 := by
    refine ⟨_, specPlain_ev _, implPlain_ev _, ?_⟩
    cases hq : treeOf (l.map cCo) with
    | none => simp
    | some x =>
      obtain ⟨q1, q2, q3⟩ := treeOf_flat hq
      have := plT_len _ x (Nat.le_refl _) q2 false
      rw [← q1] at q3
      show (CT.flat (plT false x)).length ≤ 600
      omega
  have he := eqCondS_ev r (by omega)
  obtain ⟨y, _, _, hy⟩ := markCondS_ev (l.map cCo) (by omega)
  obtain ⟨z, z1, z2, hz⟩ := markCondS_ev r (by omega)
  have hh := heldCondS_ev z (by omega) (by rw [z1]; exact z2)
  rw [z1] at hh
  refine Ev.bind hc (Ev.bind hs (Ev.bind hc (Ev.bind hi (Ev.bind he (Ev.pos rfl (Ev.bind hc (Ev.bind (eqCondS_ev _ hlen) (Ev.pos rfl (Ev.bind hy (Ev.neg (by omega) (Ev.bind he (Ev.step ?_))))))))))))
  simp only [laws_FnExactPlain.j0]
  exact Ev.neg (by simp) (Ev.bind hz (Ev.bind hh (Ev.neg (by omega) (Ev.pos rfl (Ev.bind hc (Ev.bind hi (Ev.bind he (Ev.pos rfl (Ev.bind hh (Ev.neg (by omega) (Ev.pos rfl Ev.pure)))))))))))

end Go.Proofs.Ytoipkndeeeolcaa.Pure
