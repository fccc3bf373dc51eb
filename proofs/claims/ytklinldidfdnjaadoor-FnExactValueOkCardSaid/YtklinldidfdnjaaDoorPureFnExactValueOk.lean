/- The pure statement of FnExactValueOk: both tell a value of a kind alike. -/
import Derived.Test.YtklinldidfdnjaaDoorPFnExactValueOkx0
import Derived.Test.YtklinldidfdnjaaDoorPFnExactValueOkx1
import Derived.Test.YtklinldidfdnjaaDoorPFnExactValueOkx2
import Derived.Test.YtklinldidfdnjaaDoorPFnExactValueOkx3
import Derived.Test.YtklinldidfdnjaaDoorPFnExactValueOkx4
import Derived.Test.YtklinldidfdnjaaDoorPFnExactValueOkx5
import Derived.Laws.BitsLemmas
import Derived.Laws.Bits64b
import Derived.Lib.Bytealg
namespace Go.Proofs.YtklinldidfdnjaaDoor.Pure
open Go.RowKit Go.Proofs.YtklinldidfdnjaaDoorW.PrintWords Go.Proofs.YtklinldidfdnjaaDoorW.PrintLast Go.Proofs.YtklinldidfdnjaaDoorW.PrintMore Go.Proofs.YtklinldidfdnjaaDoor.PFnExactValueOk

theorem u64w (n : Int) (h0 : 0 ≤ n) (h1 : n < 18446744073709551616) : IntKind.u64.wrap n = n := by
  simp [IntKind.wrap, IntKind.signed, IntKind.bits]; omega
theorem i64w (n : Int) (h0 : -9223372036854775808 ≤ n) (h1 : n < 9223372036854775808) : IntKind.i64.wrap n = n := by
  rw [IntKind.wrap_i64]; omega
theorem w64 (n : Int) (h0 : -9223372036854775808 ≤ n) (h1 : n < 9223372036854775808) : wrap64 n = n := by unfold wrap64; omega
theorem up1 (i : Int) (h0 : 0 ≤ i) (h : i < 9223372036854775807) : wrap64 (i + 1) = i + 1 := by unfold wrap64; omega
theorem u64_lo (n : Int) : 0 ≤ IntKind.u64.wrap n := by simp [IntKind.wrap, IntKind.signed, IntKind.bits]; omega
theorem u64_hi (n : Int) : IntKind.u64.wrap n < 18446744073709551616 := by simp [IntKind.wrap, IntKind.signed, IntKind.bits]; omega
theorem u64_wf (x : Int) (h : (Lit.int .u64 x).wf = true) : 0 ≤ x ∧ x < 18446744073709551616 := by
  simp [Lit.wf, IntKind.min, IntKind.max, IntKind.signed, IntKind.bits] at h; omega
theorem and31 (x : Int) (h0 : 0 ≤ x) (h1 : x < 18446744073709551616) : Go.bits .and .u64 x 31 = x % 32 := by
  have := bits_mask .u64 64 (by decide) (fun n a b => u64w n a (by simpa using b)) 5 (by decide) x h0 (by simpa using h1)
  simpa using this
theorem or5 (a c : Int) (h0 : 0 ≤ a) (h1 : a * 32 < 18446744073709551616) (hc0 : 0 ≤ c) (hc : c < 32) : Go.bits .or .u64 (a * 32) c = a * 32 + c := by
  have := bits_join .u64 64 (by decide) (fun n x y => u64w n x (by simpa using y)) 5 (a * 32) c (by omega) (by omega) (by simpa using h1) hc0 (by simpa using hc) (by simp; omega)
  exact this
theorem bt_list (l : List UInt8) (i : Int) : bt ⟨l.toArray⟩ i = ((l.getD i.toNat 0).toNat : Int) := by
  unfold bt
  split
  · rename_i h
    have h' : i.toNat < l.length := by simpa [ByteArray.size] using h
    rw [List.getD_eq_getElem?_getD, List.getElem?_eq_getElem h']
    rfl
  · rename_i h
    have h' : l.length ≤ i.toNat := by simpa [ByteArray.size] using h
    rw [List.getD_eq_getElem?_getD, List.getElem?_eq_none h']; rfl
/-- The alphabet of chapter 1. -/
def alpha : ByteArray := ⟨#[48, 49, 50, 51, 52, 53, 54, 55, 56, 57, 97, 98, 99, 100, 102, 103, 104, 105, 106, 107, 108, 109, 110, 112, 113, 114, 115, 118, 119, 120, 121, 122]⟩
/-- The n-th digit from the right, as its byte. -/
def dg (x : Int) (n : Nat) : Int := bt alpha (x / 2 ^ (5 * n) % 32)
/-- The last n digits. -/
def ds (x : Int) : Nat → List Int
  | 0 => []
  | n + 1 => dg x n :: ds x n
theorem ds_length (x : Int) : ∀ n, (ds x n).length = n
  | 0 => rfl
  | n + 1 => by simp [ds, ds_length x n]
/-- The thirteen bytes. -/
def word (x : Int) : ByteArray := strOfNums (ds x 13)
theorem div_lo (x : Int) (h0 : 0 ≤ x) (n : Nat) : 0 ≤ x / 2 ^ n := Int.ediv_nonneg h0 (by have := Nat.two_pow_pos n; exact_mod_cast Nat.zero_le _)
theorem div_hi (x : Int) (h0 : 0 ≤ x) (n : Nat) : x / 2 ^ n ≤ x := Int.ediv_le_self _ h0
theorem shr5 (x : Int) (n : Nat) (hn : n ≤ 12) : shr .u64 x (5 * n) = x / 2 ^ (5 * n) := by
  unfold shr
  have e : (5 * (n : Int)).toNat = 5 * n := by omega
  rw [e, Nat.min_eq_left (by simp [IntKind.bits]; omega)]
/-- What a byte is worth as a digit; -1: it is none. -/
def dv (c : Int) : Int := Lib.indexByte alpha.data.toList c.toNat.toUInt8
theorem dv_all : ∀ c : Fin 256, -1 ≤ dv (c.val : Int) ∧ dv (c.val : Int) < 32 := by decide +kernel
theorem dv_bounds (c : Int) (h0 : 0 ≤ c) (h1 : c ≤ 255) : -1 ≤ dv c ∧ dv c < 32 := by
  have := dv_all ⟨c.toNat, by omega⟩
  simpa [Int.toNat_of_nonneg h0] using this
/-- The number that thirteen digits tell, from the i-th on. -/
def rwGo (s : ByteArray) : Nat → Int → Nat → Int × Bool
  | 0, x, _ => (x, true)
  | d + 1, x, i => if dv (bt s i) < 0 then (0, false) else if i = 0 ∧ dv (bt s i) > 15 then (0, false) else rwGo s d (x * 32 + dv (bt s i)) (i + 1)
def rw32 (s : ByteArray) : Int × Bool := if s.size = 13 then rwGo s 13 0 0 else (0, false)
/-- The bound that the digits so far keep. -/
def lim (d : Nat) : Int := if d = 13 then 1 else 2 ^ (64 - 5 * d)
theorem lim_all : ∀ d : Fin 13, lim d.val ≤ 18446744073709551616 ∧ 0 < lim d.val ∧ (d.val < 12 → lim (d.val + 1) * 32 = lim d.val) ∧ (d.val = 12 → lim d.val = 16) ∧ lim (d.val + 1) * 32 ≤ 18446744073709551616 := by decide +kernel
theorem word_size (x : Int) : (word x).size = 13 := by unfold word; rw [strOfNums_size, ds_length]

-- Ev
/-- With fuel enough the run answers r. -/
def Ev {α : Type} (f : Nat → Option α) (r : α) : Prop := ∃ K, ∀ k, K ≤ k → f k = some r
theorem Ev.pure {α : Type} {r : α} : Ev (fun _ => some r) r := ⟨0, fun _ _ => rfl⟩
theorem Ev.of {α : Type} {f : Nat → Option α} {r : α} (N : Nat) (h : ∀ k, N ≤ k → f k = some r) : Ev f r := ⟨N, h⟩
theorem Ev.step {α : Type} {f : Nat → Option α} {r : α} (h : Ev (fun k => f (k + 1)) r) : Ev f r := by
  obtain ⟨K, h⟩ := h
  refine ⟨K + 1, fun k hk => ?_⟩
  obtain ⟨m, rfl⟩ : ∃ m, k = m + 1 := ⟨k - 1, by omega⟩
  exact h m (by omega)
theorem Ev.bind {α β : Type} {f : Nat → Option α} {g : Nat → α → Option β} {a : α} {r : β} (h : Ev f a) (h2 : Ev (fun k => g k a) r) : Ev (fun k => (f k).bind (g k)) r := by
  obtain ⟨K, h⟩ := h
  obtain ⟨K2, h2⟩ := h2
  refine ⟨K + K2, fun k hk => ?_⟩
  show (f k).bind (g k) = some r
  rw [h k (by omega)]
  exact h2 k (by omega)
theorem Ev.cons {α β : Type} {x : Option α} {g : Nat → α → Option β} {a : α} {r : β} (h : x = some a) (h2 : Ev (fun k => g k a) r) : Ev (fun k => x.bind (g k)) r := by
  subst h
  exact h2
theorem Ev.pos {α : Type} {c : Prop} [Decidable c] {f g : Nat → Option α} {r : α} (hc : c) (h : Ev f r) : Ev (fun k => if c then f k else g k) r := by
  simpa only [if_pos hc] using h
theorem Ev.neg {α : Type} {c : Prop} [Decidable c] {f g : Nat → Option α} {r : α} (hc : ¬ c) (h : Ev g r) : Ev (fun k => if c then f k else g k) r := by
  simpa only [if_neg hc] using h
theorem Ev.at {α : Type} {f : Nat → Option α} {r : α} (h : Ev f r) : ∃ k, f k = some r := by
  obtain ⟨K, h⟩ := h
  exact ⟨K, h K (Nat.le_refl _)⟩
theorem Ev.uniq {α : Type} {f : Nat → Option α} {r s : α} (h : Ev f r) (h2 : Ev f s) : r = s := by
  obtain ⟨K, h⟩ := h
  obtain ⟨K2, h2⟩ := h2
  have a := h (K + K2) (by omega)
  have b := h2 (K + K2) (by omega)
  rw [a] at b
  exact Option.some.inj b
/-- From the end down. -/
theorem downTo (n : Nat) (P : Nat → Prop) (base : P n) (step : ∀ i, i < n → P (i + 1) → P i) : ∀ i, i ≤ n → P i := by
  intro i hi
  obtain ⟨d, rfl⟩ : ∃ d, i = n - d := ⟨n - i, by omega⟩
  clear hi
  induction d with
  | zero => exact base
  | succ d ih =>
    by_cases h : d < n
    · refine step _ (by omega) ?_
      have e : n - (d + 1) + 1 = n - d := by omega
      rw [e]; exact ih
    · have e : n - (d + 1) = n - d := by omega
      rw [e]; exact ih
theorem upN (i : Nat) (h : i < 1000000000000000) : wrap64 ((i : Int) + 1) = ((i + 1 : Nat) : Int) := by unfold wrap64; omega
theorem dnN (i : Nat) (h : i < 1000000000000000) (h0 : 0 < i) : wrap64 ((i : Int) - 1) = ((i - 1 : Nat) : Int) := by unfold wrap64; omega
/-- A loop that sets place by place leaves the row's picture. -/
theorem setLoop {A B : Type} (L : Nat → List B → Int → Option (List B)) (x : List A) (c : A → B)
    (step : ∀ (i : Nat) (y : List B) (r : List B) (h : i < x.length), y.length = x.length → Ev (fun k => L k (y.set i (c x[i])) ((i + 1 : Nat) : Int)) r → Ev (fun k => L k y (i : Int)) r)
    (stop : ∀ y : List B, y.length = x.length → Ev (fun k => L k y ((x.length : Nat) : Int)) y) :
    ∀ y : List B, y.length = x.length → Ev (fun k => L k y 0) (x.map c) := by
  have main := downTo x.length (fun i => ∀ y : List B, y.length = x.length → y.take i = (x.map c).take i → Ev (fun k => L k y (i : Int)) (x.map c)) ?_ ?_
  · intro y hy
    exact main 0 (by omega) y hy (by simp)
  · intro y hy he
    rw [List.take_of_length_le (by omega), List.take_of_length_le (by simp)] at he
    have := stop y hy
    rw [he] at this
    rw [he] at hy
    exact he ▸ stop y (by rw [he]; exact hy)
  · intro i hi ih y hy he
    refine step i y _ hi hy (ih _ (by simp [hy]) ?_)
    rw [List.take_add_one, List.take_add_one, List.take_set_of_le (by omega), he, List.getElem?_set_self (by omega)]
    simp [List.getElem?_eq_getElem hi]
theorem countLoop {α : Type} (L : Nat → Int → Option α) (n : Nat) (r : α) (step : ∀ i : Nat, i < n → Ev (fun k => L k ((i + 1 : Nat) : Int)) r → Ev (fun k => L k (i : Int)) r) (stop : Ev (fun k => L k ((n : Nat) : Int)) r) : Ev (fun k => L k 0) r :=
  downTo n (fun i => Ev (fun k => L k (i : Int)) r) stop (fun i hi h => step i hi h) 0 (by omega)

-- NameOk
def nmByte (c : Int) : Bool := (decide (97 ≤ c) && decide (c ≤ 122)) || (decide (65 ≤ c) && decide (c ≤ 90)) || (decide (48 ≤ c) && decide (c ≤ 57)) || c == 45 || c == 95 || c == 46 || c == 43
/-- Are n bytes from the i-th on those of a name? -/
def nmGo (s : ByteArray) : Nat → Nat → Bool
  | 0, _ => true
  | d + 1, i => nmByte (bt s i) && nmGo s d (i + 1)
/-- A name. -/
def nmOk (s : ByteArray) : Bool := decide (1 ≤ s.size) && decide (s.size ≤ 60) && !(bt s 0 == 46) && nmGo s s.size 0
theorem l1Letter_f (c : Int) : spec_l1Letter.f c = some ((decide (97 ≤ c) && decide (c ≤ 122)) || (decide (65 ≤ c) && decide (c ≤ 90))) := by
  unfold spec_l1Letter.f
  by_cases h1 : 97 ≤ c <;> by_cases h2 : c ≤ 122 <;> by_cases h3 : 65 ≤ c <;> by_cases h4 : c ≤ 90 <;> simp [h1, h2, h3, h4] <;> omega
theorem l1Digit_f (c : Int) : spec_l1Digit.f c = some (decide (48 ≤ c) && decide (c ≤ 57)) := by
  unfold spec_l1Digit.f
  by_cases h1 : 48 ≤ c <;> by_cases h2 : c ≤ 57 <;> simp [h1, h2]
theorem letter_f (c : Int) : impl_letter.f c = some ((decide (97 ≤ c) && decide (c ≤ 122)) || (decide (65 ≤ c) && decide (c ≤ 90))) := by
  unfold impl_letter.f
  by_cases h1 : 97 ≤ c <;> by_cases h2 : c ≤ 122 <;> by_cases h3 : 65 ≤ c <;> by_cases h4 : c ≤ 90 <;> simp [h1, h2, h3, h4] <;> omega
theorem digit_f (c : Int) : impl_digit.f c = some (decide (48 ≤ c) && decide (c ≤ 57)) := by
  unfold impl_digit.f
  by_cases h1 : 48 ≤ c <;> by_cases h2 : c ≤ 57 <;> simp [h1, h2]
theorem spec_NameOk_loop (s : ByteArray) (hs : s.size ≤ 60) : ∀ (d i k : Nat), i + d = s.size → d < k → spec_NameOk.l0 k s (i : Int) = some (nmGo s d i) := by
  intro d
  induction d with
  | zero =>
    intro i k hi hk
    obtain ⟨k, rfl⟩ : ∃ m, k = m + 1 := ⟨k - 1, by omega⟩
    simp only [spec_NameOk.l0]; rw [if_neg (by omega)]; rfl
  | succ d ih =>
    intro i k hi hk
    obtain ⟨k, rfl⟩ : ∃ m, k = m + 1 := ⟨k - 1, by omega⟩
    have e3 : wrap64 ((i : Int) + 1) = ((i + 1 : Nat) : Int) := by rw [up1 _ (by omega) (by omega)]; omega
    simp only [spec_NameOk.l0, nmGo, nmByte]
    rw [if_pos (by omega), if_pos (by omega), l1Letter_f, l1Digit_f, e3, ih (i + 1) k (by omega) (by omega)]
    simp only [Option.bind_some]
    generalize bt s (i : Int) = c
    generalize nmGo s d (i + 1) = g
    generalize ((decide (97 ≤ c) && decide (c ≤ 122)) || (decide (65 ≤ c) && decide (c ≤ 90))) = p
    generalize (decide (48 ≤ c) && decide (c ≤ 57)) = q
    cases p <;> cases q <;> simp
    by_cases h1 : c = 45
    · simp [h1]
    · by_cases h2 : c = 95
      · simp [h2]
      · by_cases h3 : c = 46
        · simp [h3]
        · by_cases h4 : c = 43
          · simp [h4]
          · simp [h1, h2, h3, h4]
theorem spec_NameOk_f (s : ByteArray) (k : Nat) (hk : 63 ≤ k) : spec_NameOk.f k s = some (nmOk s) := by
  obtain ⟨k, rfl⟩ : ∃ m, k = m + 1 := ⟨k - 1, by omega⟩
  unfold spec_NameOk.f nmOk
  simp only [spec_NameOk.j0]
  by_cases h1 : (s.size : Int) < 1
  · rw [if_pos h1]
    have : ¬ 1 ≤ s.size := by omega
    simp [this]
  · rw [if_neg h1]
    have e1 : 1 ≤ s.size := by omega
    by_cases h2 : (s.size : Int) > 60
    · rw [if_pos h2]
      have : ¬ s.size ≤ 60 := by omega
      simp [this]
    · rw [if_neg h2, if_pos (by omega)]
      have e2 : s.size ≤ 60 := by omega
      have h := spec_NameOk_loop s e2 s.size 0 k (by omega) (by omega)
      rw [show ((0 : Nat) : Int) = 0 from rfl] at h
      rw [h]
      by_cases h3 : bt s 0 = 46
      · simp [h3]
      · simp [h3, e1, e2]
theorem w32_byte (s : ByteArray) (i : Int) : wrap32 (bt s i) = bt s i := by
  have := bt_range s i
  unfold wrap32; omega
theorem impl_NameOk_loop (s : ByteArray) (hs : s.size ≤ 60) : ∀ (d i k : Nat), i + d = s.size → d < k → impl_NameOk.l0 k s (s.size : Int) (i : Int) = some (nmGo s d i) := by
  intro d
  induction d with
  | zero =>
    intro i k hi hk
    obtain ⟨k, rfl⟩ : ∃ m, k = m + 1 := ⟨k - 1, by omega⟩
    simp only [impl_NameOk.l0]; rw [if_neg (by omega)]; rfl
  | succ d ih =>
    intro i k hi hk
    obtain ⟨k, rfl⟩ : ∃ m, k = m + 1 := ⟨k - 1, by omega⟩
    have e3 : wrap64 ((i : Int) + 1) = ((i + 1 : Nat) : Int) := by rw [up1 _ (by omega) (by omega)]; omega
    have hb := bt_range s (i : Int)
    have e4 : strings_ContainsRune.f (⟨#[45, 95, 46, 43]⟩ : ByteArray) (bt s (i : Int)) = some (bt s (i : Int) == 45 || bt s (i : Int) == 95 || bt s (i : Int) == 46 || bt s (i : Int) == 43) := by
      unfold strings_ContainsRune.f
      rw [if_pos (by rw [Lib.toList_data]), if_pos (by omega)]
    simp only [impl_NameOk.l0, nmGo, nmByte]
    rw [if_pos (by omega), if_pos (by omega), if_pos (by omega), letter_f, digit_f, w32_byte, e4, e3, ih (i + 1) k (by omega) (by omega)]
    simp only [Option.bind_some]
    generalize bt s (i : Int) = c
    generalize nmGo s d (i + 1) = g
    generalize ((decide (97 ≤ c) && decide (c ≤ 122)) || (decide (65 ≤ c) && decide (c ≤ 90))) = p
    generalize (decide (48 ≤ c) && decide (c ≤ 57)) = q
    generalize (c == 45) = r1
    generalize (c == 95) = r2
    generalize (c == 46) = r3
    generalize (c == 43) = r4
    cases p <;> cases q <;> cases r1 <;> cases r2 <;> cases r3 <;> cases r4 <;> simp
theorem impl_NameOk_f (s : ByteArray) (k : Nat) (hk : 63 ≤ k) : impl_NameOk.f k s = some (nmOk s) := by
  obtain ⟨k, rfl⟩ : ∃ m, k = m + 1 := ⟨k - 1, by omega⟩
  unfold impl_NameOk.f nmOk
  simp only [impl_NameOk.j0]
  by_cases h1 : (s.size : Int) < 1
  · rw [if_pos h1]
    have : ¬ 1 ≤ s.size := by omega
    simp [this]
  · rw [if_neg h1]
    have e1 : 1 ≤ s.size := by omega
    by_cases h2 : (s.size : Int) > 60
    · rw [if_pos h2]
      have : ¬ s.size ≤ 60 := by omega
      simp [this]
    · rw [if_neg h2, if_pos (by omega)]
      have e2 : s.size ≤ 60 := by omega
      have h := impl_NameOk_loop s e2 s.size 0 k (by omega) (by omega)
      rw [show ((0 : Nat) : Int) = 0 from rfl] at h
      rw [h]
      by_cases h3 : bt s 0 = 46
      · simp [h3]
      · simp [h3, e1, e2]

-- Ex
theorem ex_data (s : ByteArray) (a b : Nat) : (s.extract a b).data.toList = (s.data.toList.drop a).take (b - a) := by rw [← Lib.toList_data, Lib.extract_toList]
theorem bt_ex (s : ByteArray) (a i : Nat) (h : a + i < s.size) : bt (s.extract a s.size) (i : Int) = bt s ((a + i : Nat) : Int) := by
  rw [← bt_at s ((a + i : Nat) : Int) (by rw [Int.toNat_natCast]; exact h), ← bt_at (s.extract a s.size) (i : Int) (by rw [ByteArray.size_extract]; simp; omega)]
  congr 2
  simp only [Int.toNat_natCast]
  rw [ByteArray.getElem_extract]

-- SplitB
/-- The byte does not stand in the text. -/
def noB (c : UInt8) (a : ByteArray) : Prop := c ∉ a.data.toList
def one (c : UInt8) : ByteArray := ⟨#[c]⟩
theorem ib_none (c : UInt8) : ∀ (a : List UInt8), c ∉ a → Lib.indexByte a c = -1
  | [], _ => rfl
  | x :: a, h => by
    have h1 : (x == c) = false := by
      rw [beq_eq_false_iff_ne]
      intro e
      exact h (by rw [e]; exact List.mem_cons_self)
    unfold Lib.indexByte
    rw [h1, ib_none c a (fun hm => h (List.mem_cons_of_mem _ hm))]
    rfl
theorem ib_app (c : UInt8) (b : List UInt8) : ∀ (a : List UInt8), c ∉ a → Lib.indexByte (a ++ c :: b) c = (a.length : Int)
  | [], _ => by simp [Lib.indexByte]
  | x :: a, h => by
    have h1 : (x == c) = false := by
      rw [beq_eq_false_iff_ne]
      intro e
      exact h (by rw [e]; exact List.mem_cons_self)
    have ih := ib_app c b a (fun hm => h (List.mem_cons_of_mem _ hm))
    show Lib.indexByte (x :: (a ++ c :: b)) c = _
    unfold Lib.indexByte
    rw [h1, ih]
    simp only [List.length_cons, Bool.false_eq_true, if_false]
    have : ((a.length : Int) == -1) = false := by rw [beq_eq_false_iff_ne]; omega
    rw [this]
    simp
theorem app_data (a b : ByteArray) (c : UInt8) : ((a ++ one c) ++ b).data.toList = a.data.toList ++ c :: b.data.toList := by
  rw [ByteArray.data_append, ByteArray.data_append, Array.toList_append, Array.toList_append]
  show (a.data.toList ++ [c]) ++ b.data.toList = _
  rw [List.append_assoc]
  rfl
theorem indexB_none {c : UInt8} {s : ByteArray} (h : noB c s) : Lib.indexB s (one c) = -1 := by
  show Lib.index s.data.toList [c] = -1
  rw [Lib.index_one]
  exact ib_none c _ h
theorem indexB_app {c : UInt8} {a b : ByteArray} (h : noB c a) : Lib.indexB ((a ++ one c) ++ b) (one c) = (a.size : Int) := by
  show Lib.index ((a ++ one c) ++ b).data.toList [c] = _
  rw [Lib.index_one, app_data, ib_app c _ _ h, Array.length_toList]
  rfl
theorem countB_none {c : UInt8} {s : ByteArray} (h : noB c s) : Lib.countB s (one c) = 0 := by
  show Lib.count s.data.toList [c] = 0
  rw [Lib.count_one]
  exact List.count_eq_zero.2 h
theorem countB_app {c : UInt8} {a b : ByteArray} (h : noB c a) : Lib.countB ((a ++ one c) ++ b) (one c) = Lib.countB b (one c) + 1 := by
  show Lib.count ((a ++ one c) ++ b).data.toList [c] = Lib.count b.data.toList [c] + 1
  rw [Lib.count_one, Lib.count_one, app_data, List.count_append, List.count_cons_self, List.count_eq_zero.2 h]
  omega
/-- The pieces between the bytes c. -/
def spl (c : UInt8) (s : ByteArray) : List ByteArray := Lib.splitB (one c) 0 (Lib.countB s (one c)) s
theorem spl_none {c : UInt8} {s : ByteArray} (h : noB c s) : spl c s = [s] := Lib.splitB_miss _ _ _ _ (indexB_none h)
theorem spl_cons {c : UInt8} {a b : ByteArray} (h : noB c a) : spl c ((a ++ one c) ++ b) = a :: spl c b := by
  unfold spl
  rw [countB_app h, Lib.splitB_hit _ _ _ _ _ (indexB_app h)]
  have h1 : ((a ++ one c) ++ b).extract 0 (a.size + 0) = a := by
    rw [ByteArray.append_assoc]
    exact ByteArray.extract_append_eq_left rfl
  have h2 : ((a ++ one c) ++ b).extract (a.size + (one c).size) ((a ++ one c) ++ b).size = b :=
    ByteArray.extract_append_eq_right (by rw [ByteArray.size_append]) (by rw [ByteArray.size_append])
  rw [h1, h2]
/-- A text has no such byte, or falls in two at the first. -/
theorem cutB (c : UInt8) (s : ByteArray) : noB c s ∨ ∃ a b, noB c a ∧ s = (a ++ one c) ++ b := by
  by_cases h : c ∈ s.data.toList
  · right
    obtain ⟨x, y, hxy, hx⟩ : ∃ x y, s.data.toList = x ++ c :: y ∧ c ∉ x := by
      generalize s.data.toList = l at h
      induction l with
      | nil => simp at h
      | cons z l ih =>
        by_cases e : z = c
        · subst e
          exact ⟨[], l, rfl, by simp⟩
        · have hl : c ∈ l := by
            rcases List.mem_cons.1 h with h | h
            · exact absurd h.symm e
            · exact h
          obtain ⟨x, y, e1, e2⟩ := ih hl
          refine ⟨z :: x, y, by rw [e1]; rfl, ?_⟩
          intro hm
          rcases List.mem_cons.1 hm with hm | hm
          · exact e hm.symm
          · exact e2 hm
    refine ⟨⟨x.toArray⟩, ⟨y.toArray⟩, by simpa [noB] using hx, ?_⟩
    apply ByteArray.ext
    apply Array.ext'
    rw [app_data, hxy]
  · exact Or.inl h
theorem spl_ne (c : UInt8) (s : ByteArray) : spl c s ≠ [] := by
  rcases cutB c s with h | ⟨a, b, h, rfl⟩
  · rw [spl_none h]; simp
  · rw [spl_cons h]; simp
theorem noB_bt {c : UInt8} {a : ByteArray} : noB c a ↔ ∀ i : Nat, i < a.size → bt a (i : Int) ≠ (c.toNat : Int) := by
  unfold noB
  constructor
  · intro h i hi e
    apply h
    rw [← bt_at a (i : Int) (by simpa using hi)] at e
    have e2 : a[i]'hi = c := UInt8.toNat.inj (by exact_mod_cast e)
    rw [← e2]
    simp only [ByteArray.getElem_eq_getElem_data]
    exact Array.getElem_mem_toList _
  · intro h hm
    obtain ⟨i, hi, e⟩ := List.mem_iff_getElem.1 hm
    have hi' : i < a.size := by rw [Array.length_toList] at hi; exact hi
    apply h i hi'
    rw [← bt_at a (i : Int) (by simpa using hi')]
    have e2 : a[i]'hi' = c := by
      rw [← e]
      rfl
    have : (a[((i : Nat) : Int).toNat]'(by simpa using hi')) = c := e2
    rw [this]
theorem cutAt (s : ByteArray) (c : UInt8) (k : Nat) (hk : k < s.size) (h : bt s (k : Int) = (c.toNat : Int)) : s = (s.extract 0 k ++ one c) ++ s.extract (k + 1) s.size := by
  have hl : k < s.data.toList.length := by rw [Array.length_toList]; exact hk
  have hc : s.data.toList[k] = c := by
    rw [← bt_at s (k : Int) (by simpa using hk)] at h
    have e2 : s[k]'hk = c := UInt8.toNat.inj (by exact_mod_cast h)
    rw [← e2]
    rfl
  apply ByteArray.ext
  apply Array.ext'
  rw [app_data, ex_data, ex_data, List.drop_zero, Nat.sub_zero]
  have e : (s.data.toList.drop (k + 1)).take (s.size - (k + 1)) = s.data.toList.drop (k + 1) := List.take_of_length_le (by rw [List.length_drop, Array.length_toList]; exact Nat.le_refl _)
  rw [e, ← hc, ← List.drop_eq_getElem_cons hl, List.take_append_drop]

-- SplitI
theorem spl_next (s : ByteArray) (i j : Nat) (hij : i ≤ j) (hj : j < s.size) : ∃ c : UInt8, (c.toNat : Int) = bt s (j : Int) ∧ (s.extract i (j + 1)).data.toList = (s.extract i j).data.toList ++ [c] := by
  have hl : j < s.data.toList.length := by rw [Array.length_toList]; exact hj
  refine ⟨s.data.toList[j], ?_, ?_⟩
  · rw [← bt_at s (j : Int) (by simpa using hj)]
    rfl
  · rw [ex_data, ex_data, show j + 1 - i = (j - i) + 1 by omega, List.take_add_one, List.getElem?_drop, show i + (j - i) = j by omega, List.getElem?_eq_getElem hl]
    rfl
/-- The spec cuts a text at a byte as the library does. -/
theorem l17Split_run (s : ByteArray) (c : UInt8) (hs : s.size ≤ 1048576) : ∀ j, j ≤ s.size → ∀ (i : Nat) (acc : List ByteArray), i ≤ j → acc.length ≤ i → noB c (s.extract i j) → Ev (fun k => spec_l17Split.l0 k s (c.toNat : Int) acc (i : Int) (j : Int)) (acc ++ spl c (s.extract i s.size)) := by
  refine downTo s.size (fun j => ∀ (i : Nat) (acc : List ByteArray), i ≤ j → acc.length ≤ i → noB c (s.extract i j) → Ev (fun k => spec_l17Split.l0 k s (c.toNat : Int) acc (i : Int) (j : Int)) (acc ++ spl c (s.extract i s.size))) ?_ ?_
  · intro i acc hij ha hn
    refine Ev.step ?_
    simp only [spec_l17Split.l0, upN s.size (by omega), Int.toNat_natCast]
    refine Ev.pos (Int.le_refl _) (Ev.pos trivial (Ev.pos (by omega) (Ev.pos (by omega) (Ev.pos (by omega) (Ev.step ?_)))))
    simp only [spec_l17Split.l0]
    refine Ev.neg (by omega) ?_
    rw [spl_none hn]
    exact Ev.pure
  · intro j hj ih i acc hij ha hn
    refine Ev.step ?_
    simp only [spec_l17Split.l0, upN j (by omega), Int.toNat_natCast]
    refine Ev.pos (by omega) (Ev.neg (by omega) (Ev.pos (by omega) (Ev.pos (by omega) ?_)))
    by_cases e : bt s (j : Int) = (c.toNat : Int)
    · refine Ev.pos e (Ev.pos (by omega) (Ev.pos (by omega) (Ev.pos (by omega) ?_)))
      have h := ih (j + 1) (acc ++ [s.extract i j]) (Nat.le_refl _) (by rw [List.length_append, List.length_singleton]; omega) (by unfold noB; rw [ex_data]; simp)
      have hc := cutAt (s.extract i s.size) c (j - i) (by rw [ByteArray.size_extract]; omega) (by rw [bt_ex s i (j - i) (by omega), show i + (j - i) = j by omega]; exact e)
      have e1 : (s.extract i s.size).extract 0 (j - i) = s.extract i j := by
        apply ByteArray.ext
        apply Array.ext'
        rw [ex_data, ex_data, ex_data, List.drop_zero, List.take_take]
        congr 1
        omega
      have e2 : (s.extract i s.size).extract (j - i + 1) (s.extract i s.size).size = s.extract (j + 1) s.size := by
        apply ByteArray.ext
        apply Array.ext'
        rw [ex_data, ex_data, ex_data, List.drop_take, List.drop_drop, List.take_take, ByteArray.size_extract, show i + (j - i + 1) = j + 1 by omega]
        congr 1
        omega
      rw [e1, e2] at hc
      rw [hc, spl_cons hn]
      rw [List.append_assoc] at h
      exact h
    · refine Ev.neg e ?_
      obtain ⟨ch, hch, hsub⟩ := spl_next s i j hij hj
      refine ih i acc (by omega) ha ?_
      unfold noB at hn ⊢
      rw [hsub]
      intro hm
      rcases List.mem_append.1 hm with hm | hm
      · exact hn hm
      · rw [List.mem_singleton.1 hm] at e
        exact e hch.symm
theorem l17Split_ev (s : ByteArray) (c : UInt8) (hs : s.size ≤ 1048576) : Ev (fun k => spec_l17Split.f k s (c.toNat : Int)) (spl c s) := by
  have h := l17Split_run s c hs 0 (by omega) 0 [] (by omega) (by simp) (by unfold noB; rw [ex_data]; simp)
  have e : s.extract 0 s.size = s := ByteArray.extract_zero_size
  rw [e] at h
  exact h

-- HasB
theorem rdB (l : List ByteArray) (i : Nat) (h : i < l.length) : rdOf ByteArray.empty l (i : Int) = l[i] := by unfold rdOf; simp [List.getD_eq_getElem?_getD, List.getElem?_eq_getElem h]
/-- Both look a text up in a list alike. -/
theorem has_ev (l : List ByteArray) (s : ByteArray) (hl : l.length ≤ 100000000) : ∃ b : Bool, Ev (fun k => spec_l3Has.f k l s) b ∧ Ev (fun k => impl_inList.f k l s) b := by
  unfold spec_l3Has.f impl_inList.f
  refine downTo l.length (fun i => ∃ b : Bool, Ev (fun k => spec_l3Has.l0 k l s (i : Int)) b ∧ Ev (fun k => impl_inList.l0 k s l (l.length : Int) (i : Int)) b) ?_ ?_ 0 (by omega)
  · refine ⟨false, Ev.step ?_, Ev.step ?_⟩
    · simp only [spec_l3Has.l0]
      exact Ev.neg (by omega) Ev.pure
    · simp only [impl_inList.l0]
      exact Ev.neg (by omega) Ev.pure
  · intro i hi ih
    by_cases e : (l[i]).toList = s.toList
    · refine ⟨true, Ev.step ?_, Ev.step ?_⟩
      · simp only [spec_l3Has.l0, rdB l i hi]
        exact Ev.pos (by omega) (Ev.pos (by omega) (Ev.pos e Ev.pure))
      · simp only [impl_inList.l0, rdB l i hi]
        exact Ev.pos (by omega) (Ev.pos (by omega) (Ev.pos (by omega) (Ev.pos e Ev.pure)))
    · obtain ⟨b, h1, h2⟩ := ih
      refine ⟨b, Ev.step ?_, Ev.step ?_⟩
      · simp only [spec_l3Has.l0, rdB l i hi, upN i (by omega)]
        exact Ev.pos (by omega) (Ev.pos (by omega) (Ev.neg e h1))
      · simp only [impl_inList.l0, rdB l i hi, upN i (by omega)]
        exact Ev.pos (by omega) (Ev.pos (by omega) (Ev.pos (by omega) (Ev.neg e h2)))

theorem spl_len (c : UInt8) : ∀ (n : Nat) (s : ByteArray), s.size ≤ n → (spl c s).length ≤ n + 1 := by
  intro n
  induction n with
  | zero =>
    intro s hs
    rcases cutB c s with h | ⟨a, b, h, rfl⟩
    · rw [spl_none h]; simp
    · exfalso
      rw [ByteArray.size_append, ByteArray.size_append] at hs
      have : (one c).size = 1 := rfl
      omega
  | succ n ih =>
    intro s hs
    rcases cutB c s with h | ⟨a, b, h, rfl⟩
    · rw [spl_none h]; simp
    · rw [spl_cons h]
      rw [ByteArray.size_append, ByteArray.size_append] at hs
      have : (one c).size = 1 := rfl
      have := ih b (by omega)
      rw [List.length_cons]
      omega
theorem split_f (s : ByteArray) (c : UInt8) (hs : s.size ≤ 1048576) : strings_Split.f s (⟨#[c]⟩ : ByteArray) = some (spl c s) := by
  unfold strings_Split.f
  rw [if_pos ⟨rfl, by omega⟩]
  rfl
theorem sNm (s : ByteArray) : Ev (fun k => spec_NameOk.f k s) (nmOk s) := Ev.of 63 (fun k hk => spec_NameOk_f s k hk)
theorem iNm (s : ByteArray) : Ev (fun k => impl_NameOk.f k s) (nmOk s) := Ev.of 63 (fun k hk => impl_NameOk_f s k hk)
theorem choice_run (l : List ByteArray) (hl : l.length ≤ 1048577) : ∃ b : Bool, Ev (fun k => spec_l17Choice.l0 k l 0) (if b = true then l else []) ∧ Ev (fun k => impl_choices.l0 k l l (l.length : Int) 0) ((if b = true then l else []), b) := by
  refine downTo l.length (fun i => ∃ b : Bool, Ev (fun k => spec_l17Choice.l0 k l (i : Int)) (if b = true then l else []) ∧ Ev (fun k => impl_choices.l0 k l l (l.length : Int) (i : Int)) ((if b = true then l else []), b)) ?_ ?_ 0 (by omega)
  · refine ⟨true, Ev.step ?_, Ev.step ?_⟩
    · simp only [spec_l17Choice.l0]
      exact Ev.neg (by omega) Ev.pure
    · simp only [impl_choices.l0]
      exact Ev.neg (by omega) Ev.pure
  · intro i hi ih
    by_cases c : nmOk l[i] = true
    · obtain ⟨h, g1, g2⟩ := has_ev (l.take i) l[i] (by rw [List.length_take]; omega)
      cases h with
      | true =>
        refine ⟨false, Ev.step ?_, Ev.step ?_⟩
        · simp only [spec_l17Choice.l0, rdB l i hi, Int.toNat_natCast]
          exact Ev.pos (by omega) (Ev.pos (by omega) (Ev.bind (sNm _) (Ev.pos c (Ev.pos (by omega) (Ev.bind g1 (Ev.pos rfl Ev.pure))))))
        · simp only [impl_choices.l0, rdB l i hi, Int.toNat_natCast]
          exact Ev.pos (by omega) (Ev.pos (by omega) (Ev.pos (by omega) (Ev.bind (iNm _) (Ev.pos c (Ev.pos (by omega) (Ev.bind g2 (Ev.pos rfl Ev.pure)))))))
      | false =>
        obtain ⟨b, h1, h2⟩ := ih
        refine ⟨b, Ev.step ?_, Ev.step ?_⟩
        · simp only [spec_l17Choice.l0, rdB l i hi, Int.toNat_natCast, upN i (by omega)]
          exact Ev.pos (by omega) (Ev.pos (by omega) (Ev.bind (sNm _) (Ev.pos c (Ev.pos (by omega) (Ev.bind g1 (Ev.neg (by simp) h1))))))
        · simp only [impl_choices.l0, rdB l i hi, Int.toNat_natCast, upN i (by omega)]
          exact Ev.pos (by omega) (Ev.pos (by omega) (Ev.pos (by omega) (Ev.bind (iNm _) (Ev.pos c (Ev.pos (by omega) (Ev.bind g2 (Ev.neg (by simp) h2)))))))
    · refine ⟨false, Ev.step ?_, Ev.step ?_⟩
      · simp only [spec_l17Choice.l0, rdB l i hi]
        exact Ev.pos (by omega) (Ev.pos (by omega) (Ev.bind (sNm _) (Ev.neg c Ev.pure)))
      · simp only [impl_choices.l0, rdB l i hi]
        exact Ev.pos (by omega) (Ev.pos (by omega) (Ev.pos (by omega) (Ev.bind (iNm _) (Ev.neg c Ev.pure))))
theorem choice_ev (s : ByteArray) (hs : s.size ≤ 1048576) : ∃ (b : Bool) (l : List ByteArray), l.length ≤ 1048577 ∧ Ev (fun k => spec_l17Choice.f k s) (if b = true then l else []) ∧ Ev (fun k => impl_choices.f k s) ((if b = true then l else []), b) := by
  have hl := spl_len 124 1048576 s hs
  unfold spec_l17Choice.f impl_choices.f
  by_cases c : ((spl 124 s).length : Int) < 2
  · refine ⟨false, [], by simp, ?_, ?_⟩
    · exact Ev.bind (l17Split_ev s 124 hs) (Ev.pos c Ev.pure)
    · exact Ev.cons (split_f s 124 hs) (Ev.pos c Ev.pure)
  · obtain ⟨b, h1, h2⟩ := choice_run (spl 124 s) hl
    refine ⟨b, spl 124 s, hl, ?_, ?_⟩
    · exact Ev.bind (l17Split_ev s 124 hs) (Ev.neg c h1)
    · exact Ev.cons (split_f s 124 hs) (Ev.neg c h2)
theorem list_run (s : ByteArray) (h0 : s.toList ≠ []) (l : List ByteArray) (hl : l.length ≤ 1048577) : ∃ b : Bool, Ev (fun k => spec_ValueOk.l0 k s l 0) b ∧ Ev (fun k => impl_ValueOk.l1 k l (l.length : Int) 0) b := by
  refine downTo l.length (fun i => ∃ b : Bool, Ev (fun k => spec_ValueOk.l0 k s l (i : Int)) b ∧ Ev (fun k => impl_ValueOk.l1 k l (l.length : Int) (i : Int)) b) ?_ ?_ 0 (by omega)
  · refine ⟨true, Ev.step ?_, Ev.step ?_⟩
    · simp only [spec_ValueOk.l0]
      refine Ev.neg (by omega) (Ev.step ?_)
      simp only [spec_ValueOk.j1]
      exact Ev.neg (by simp) Ev.pure
    · simp only [impl_ValueOk.l1]
      exact Ev.neg (by omega) Ev.pure
  · intro i hi ih
    have hne : (s.toList != ([] : List UInt8)) = true := by simpa using h0
    obtain ⟨b, h1, h2⟩ : ∃ b : Bool, Ev (fun k => if nmOk l[i] = true then spec_ValueOk.l0 k s l ((i + 1 : Nat) : Int) else some false) b ∧ Ev (fun k => if nmOk l[i] = true then impl_ValueOk.l1 k l (l.length : Int) ((i + 1 : Nat) : Int) else some false) b := by
      by_cases c : nmOk l[i] = true
      · obtain ⟨b, h1, h2⟩ := ih
        exact ⟨b, Ev.pos c h1, Ev.pos c h2⟩
      · exact ⟨false, Ev.neg c Ev.pure, Ev.neg c Ev.pure⟩
    refine ⟨b, Ev.step ?_, Ev.step ?_⟩
    · simp only [spec_ValueOk.l0]
      refine Ev.pos (by omega) (Ev.step ?_)
      simp only [spec_ValueOk.j1, rdB l i hi, upN i (by omega)]
      exact Ev.pos hne (Ev.pos (by omega) (Ev.pos (by omega) (Ev.bind (sNm _) h1)))
    · simp only [impl_ValueOk.l1, rdB l i hi, upN i (by omega)]
      exact Ev.pos (by omega) (Ev.pos (by omega) (Ev.pos (by omega) (Ev.bind (iNm _) h2)))
theorem digits_run (t : ByteArray) (ht : t.size ≤ 15) : ∃ b : Bool, Ev (fun k => spec_l17IntOk.l0 k t 0) b ∧ Ev (fun k => impl_ValueOk.l0 k t (t.size : Int) 0) b := by
  refine downTo t.size (fun i => ∃ b : Bool, Ev (fun k => spec_l17IntOk.l0 k t (i : Int)) b ∧ Ev (fun k => impl_ValueOk.l0 k t (t.size : Int) (i : Int)) b) ?_ ?_ 0 (by omega)
  · refine ⟨true, Ev.step ?_, Ev.step ?_⟩
    · simp only [spec_l17IntOk.l0]
      exact Ev.neg (by omega) Ev.pure
    · simp only [impl_ValueOk.l0]
      exact Ev.neg (by omega) Ev.pure
  · intro i hi ih
    by_cases c1 : bt t (i : Int) < 48
    · refine ⟨false, Ev.step ?_, Ev.step ?_⟩
      · simp only [spec_l17IntOk.l0, l1Digit_f]
        exact Ev.pos (by omega) (Ev.pos (by omega) (Ev.cons rfl (Ev.neg (by simp; omega) Ev.pure)))
      · simp only [impl_ValueOk.l0]
        exact Ev.pos (by omega) (Ev.pos (by omega) (Ev.pos (by omega) (Ev.pos c1 Ev.pure)))
    by_cases c2 : bt t (i : Int) > 57
    · refine ⟨false, Ev.step ?_, Ev.step ?_⟩
      · simp only [spec_l17IntOk.l0, l1Digit_f]
        exact Ev.pos (by omega) (Ev.pos (by omega) (Ev.cons rfl (Ev.neg (by simp; omega) Ev.pure)))
      · simp only [impl_ValueOk.l0]
        exact Ev.pos (by omega) (Ev.pos (by omega) (Ev.pos (by omega) (Ev.neg c1 (Ev.pos c2 Ev.pure))))
    · obtain ⟨b, h1, h2⟩ := ih
      refine ⟨b, Ev.step ?_, Ev.step ?_⟩
      · simp only [spec_l17IntOk.l0, l1Digit_f, upN i (by omega)]
        exact Ev.pos (by omega) (Ev.pos (by omega) (Ev.cons rfl (Ev.pos (by simp; omega) h1)))
      · simp only [impl_ValueOk.l0, upN i (by omega)]
        exact Ev.pos (by omega) (Ev.pos (by omega) (Ev.pos (by omega) (Ev.neg c1 (Ev.neg c2 h2))))
theorem list1 (s : ByteArray) (c : UInt8) : s.toList = [c] ↔ s.size = 1 ∧ bt s 0 = (c.toNat : Int) := by
  rw [Lib.toList_data]
  constructor
  · intro h
    have hs : s.size = 1 := by
      have := congrArg List.length h
      rw [Array.length_toList] at this
      exact this
    refine ⟨hs, ?_⟩
    rw [← bt_at s 0 (by simp [hs])]
    have e : s.data.toList[0]'(by rw [h]; simp) = c := by simp [h]
    exact_mod_cast congrArg (fun x : UInt8 => (x.toNat : Int)) e
  · rintro ⟨hs, h⟩
    rw [← bt_at s 0 (by simp [hs])] at h
    have hl : s.data.toList.length = 1 := by rw [Array.length_toList]; exact hs
    obtain ⟨x, hx⟩ := List.length_eq_one_iff.1 hl
    rw [hx]
    have e : s.data.toList[0]'(by rw [hl]; omega) = x := by simp [hx]
    have e2 : x = c := by
      rw [← e]
      exact UInt8.toNat.inj (by exact_mod_cast h)
    rw [e2]
/-- The text without a leading '-'. -/
def noM (s : ByteArray) : ByteArray := if 0 < s.size ∧ bt s 0 = 45 then s.extract 1 s.size else s
theorem trim_f (s : ByteArray) : strings_TrimPrefix.f s (⟨#[45]⟩ : ByteArray) = some (noM s) := by
  have h1 : ((⟨#[45]⟩ : ByteArray).size : Int) = 1 := rfl
  unfold strings_TrimPrefix.f stringslite_TrimPrefix.f stringslite_HasPrefix.f noM
  rw [h1]
  by_cases c : (s.size : Int) ≥ 1
  · rw [if_pos c, if_pos (by omega), if_pos (by omega)]
    have e : ((s.extract 0 ((1 : Int)).toNat).toList == (⟨#[45]⟩ : ByteArray).toList) = decide (bt s 0 = 45) := by
      have e1 : (⟨#[45]⟩ : ByteArray).toList = [45] := by rw [Lib.toList_data]
      rw [e1, Bool.eq_iff_iff, beq_iff_eq, decide_eq_true_eq, list1]
      have e2 : bt (s.extract 0 ((1 : Int)).toNat) 0 = bt s 0 := by
        rw [← bt_at s 0 (by simp; omega), ← bt_at (s.extract 0 ((1 : Int)).toNat) 0 (by rw [ByteArray.size_extract]; simp; omega)]
        congr 2
        rw [ByteArray.getElem_extract]
        simp
      rw [e2]
      have e3 : (s.extract 0 ((1 : Int)).toNat).size = 1 := by rw [ByteArray.size_extract]; simp; omega
      have e4 : ((45 : UInt8).toNat : Int) = 45 := rfl
      rw [e4]
      exact ⟨fun h => h.2, fun h => ⟨e3, h⟩⟩
    rw [e]
    simp only [Option.bind_some]
    by_cases c2 : bt s 0 = 45
    · rw [if_pos (by simpa using c2), if_pos (by omega), if_pos (by omega), if_pos ⟨by omega, c2⟩]
      rfl
    · rw [if_neg (by simpa using c2), if_neg (by intro h; exact c2 h.2)]
      rfl
  · rw [if_neg c]
    simp only [Option.bind_some, Bool.false_eq_true, if_false]
    rw [if_neg (by omega)]
theorem int_ev (s : ByteArray) : ∃ b : Bool, Ev (fun k => spec_l17IntOk.f k s) b ∧ Ev (fun k => (strings_TrimPrefix.f s (⟨#[45]⟩ : ByteArray)).bind fun t160 => (if (t160.size : Int) = 0 then (impl_ValueOk.j0 k t160 true) else (if (t160.size : Int) > 15 then (impl_ValueOk.j0 k t160 true) else (if 0 < (t160.size : Int) then (if (bt t160 0) = 48 then (if (t160.size : Int) > 1 then (impl_ValueOk.j0 k t160 true) else (impl_ValueOk.j0 k t160 (decide ((s.size : Int) > 1)))) else (impl_ValueOk.j0 k t160 false)) else (none))))) b := by
  have hspec : ∀ b, Ev (fun k => spec_l17IntOk.j1 k s (noM s)) b → Ev (fun k => spec_l17IntOk.f k s) b := by
    intro b h
    unfold spec_l17IntOk.f
    unfold noM at h
    by_cases c : 0 < s.size
    · refine Ev.pos (by omega) (Ev.pos (by omega) (Ev.step ?_))
      simp only [spec_l17IntOk.j0]
      by_cases c2 : bt s 0 = 45
      · rw [if_pos ⟨c, c2⟩] at h
        exact Ev.pos (by simpa using c2) (Ev.pos (by omega) h)
      · rw [if_neg (by intro h; exact c2 h.2)] at h
        exact Ev.neg (by simpa using c2) h
    · rw [if_neg (by intro h; exact c h.1)] at h
      refine Ev.neg (by omega) (Ev.step ?_)
      simp only [spec_l17IntOk.j0]
      exact Ev.neg (by simp) h
  have hno : ∀ k, spec_l17IntOk.j2 (k + 1) (noM s) true = some false := by intro k; simp only [spec_l17IntOk.j2]; simp
  have hni : ∀ k, impl_ValueOk.j0 (k + 1) (noM s) true = some false := by intro k; simp only [impl_ValueOk.j0]; simp
  have eno : Ev (fun k => spec_l17IntOk.j2 k (noM s) true) false := Ev.step ⟨0, fun k _ => hno k⟩
  have eni : Ev (fun k => impl_ValueOk.j0 k (noM s) true) false := Ev.step ⟨0, fun k _ => hni k⟩
  by_cases c1 : (noM s).size < 1
  · refine ⟨false, hspec _ (Ev.step ?_), Ev.cons (trim_f s) (Ev.pos (by omega) eni)⟩
    simp only [spec_l17IntOk.j1]
    exact Ev.pos (by omega) eno
  by_cases c2 : (noM s).size > 15
  · refine ⟨false, hspec _ (Ev.step ?_), Ev.cons (trim_f s) (Ev.neg (by omega) (Ev.pos (by omega) eni))⟩
    simp only [spec_l17IntOk.j1]
    exact Ev.neg (by omega) (Ev.pos (by omega) eno)
  obtain ⟨d, d1, d2⟩ := digits_run (noM s) (by omega)
  have yes : Ev (fun k => spec_l17IntOk.j2 k (noM s) false) d := by
    refine Ev.step ?_
    simp only [spec_l17IntOk.j2]
    exact Ev.neg (by simp) d1
  have yei : Ev (fun k => impl_ValueOk.j0 k (noM s) false) d := by
    refine Ev.step ?_
    simp only [impl_ValueOk.j0]
    exact Ev.neg (by simp) d2
  by_cases c3 : bt (noM s) 0 = 48
  · by_cases c4 : s.toList = [48]
    · have c5 := (list1 s 48).1 c4
      have hn : noM s = s := by
        unfold noM
        rw [if_neg]
        rintro ⟨_, h⟩
        rw [c5.2] at h
        revert h
        decide
      refine ⟨d, hspec _ (Ev.step ?_), Ev.cons (trim_f s) (Ev.neg (by omega) (Ev.neg (by omega) (Ev.pos (by omega) (Ev.pos c3 (Ev.neg (by rw [hn]; omega) ?_)))))⟩
      · simp only [spec_l17IntOk.j1]
        refine Ev.neg (by omega) (Ev.neg (by omega) (Ev.pos (by omega) (Ev.pos c3 ?_)))
        have : (s.toList != ([48] : List UInt8)) = false := by simpa using c4
        rw [this]
        exact yes
      · rw [decide_eq_false (by omega)]
        exact yei
    · refine ⟨false, hspec _ (Ev.step ?_), Ev.cons (trim_f s) (Ev.neg (by omega) (Ev.neg (by omega) (Ev.pos (by omega) (Ev.pos c3 ?_))))⟩
      · simp only [spec_l17IntOk.j1]
        refine Ev.neg (by omega) (Ev.neg (by omega) (Ev.pos (by omega) (Ev.pos c3 ?_)))
        have : (s.toList != ([48] : List UInt8)) = true := by simpa using c4
        rw [this]
        exact eno
      · by_cases c6 : ((noM s).size : Int) > 1
        · exact Ev.pos c6 eni
        · refine Ev.neg c6 ?_
          have : decide ((s.size : Int) > 1) = true := by
            rw [decide_eq_true_eq]
            apply Classical.byContradiction
            intro h
            apply c4
            unfold noM at c1 c3
            by_cases q : 0 < s.size ∧ bt s 0 = 45
            · rw [if_pos q, ByteArray.size_extract] at c1
              omega
            · rw [if_neg q] at c1 c3
              exact (list1 s 48).2 ⟨by omega, c3⟩
          rw [this]
          exact eni
  · refine ⟨d, hspec _ (Ev.step ?_), Ev.cons (trim_f s) (Ev.neg (by omega) (Ev.neg (by omega) (Ev.pos (by omega) (Ev.neg c3 yei))))⟩
    simp only [spec_l17IntOk.j1]
    exact Ev.neg (by omega) (Ev.neg (by omega) (Ev.pos (by omega) (Ev.neg c3 yes)))
theorem empty_spl (c : UInt8) (s : ByteArray) (h : s.toList = []) : spl c s = [s] := by
  refine spl_none ?_
  unfold noB
  rw [← Lib.toList_data, h]
  simp
theorem value_ev (a v : ByteArray) (ha : a.size ≤ 1048576) (hv : v.size ≤ 1048576) : ∃ b : Bool, Ev (fun k => spec_ValueOk.f k a v) b ∧ Ev (fun k => impl_ValueOk.f k a v) b := by
  unfold spec_ValueOk.f impl_ValueOk.f
  by_cases c1 : a.toList = ([98, 111, 111, 108] : List UInt8)
  · by_cases d1 : v.toList = ([116, 114, 117, 101] : List UInt8)
    · exact ⟨true, Ev.pos c1 (Ev.pos d1 Ev.pure), Ev.pos c1 (Ev.pos d1 Ev.pure)⟩
    · exact ⟨_, Ev.pos c1 (Ev.neg d1 Ev.pure), Ev.pos c1 (Ev.neg d1 Ev.pure)⟩
  by_cases c2 : a.toList = ([105, 110, 116] : List UInt8)
  · obtain ⟨b, h1, h2⟩ := int_ev v
    exact ⟨b, Ev.neg c1 (Ev.pos c2 (Ev.bind h1 Ev.pure)), Ev.neg c1 (Ev.pos c2 h2)⟩
  by_cases c3 : a.toList = ([116, 101, 120, 116] : List UInt8)
  · exact ⟨_, Ev.neg c1 (Ev.neg c2 (Ev.pos c3 Ev.pure)), Ev.neg c1 (Ev.neg c2 (Ev.pos c3 Ev.pure))⟩
  by_cases c4 : a.toList = ([108, 105, 115, 116] : List UInt8)
  · by_cases d : v.toList = ([] : List UInt8)
    · refine ⟨true, Ev.neg c1 (Ev.neg c2 (Ev.neg c3 (Ev.pos c4 (Ev.bind (l17Split_ev v 32 hv) (Ev.step ?_))))), Ev.neg c1 (Ev.neg c2 (Ev.neg c3 (Ev.pos c4 (Ev.pos d Ev.pure))))⟩
      rw [empty_spl 32 v d]
      simp only [spec_ValueOk.l0]
      refine Ev.pos (by simp) (Ev.step ?_)
      simp only [spec_ValueOk.j1]
      exact Ev.neg (by simp [d]) Ev.pure
    · obtain ⟨b, h1, h2⟩ := list_run v d (spl 32 v) (spl_len 32 1048576 v hv)
      exact ⟨b, Ev.neg c1 (Ev.neg c2 (Ev.neg c3 (Ev.pos c4 (Ev.bind (l17Split_ev v 32 hv) h1)))), Ev.neg c1 (Ev.neg c2 (Ev.neg c3 (Ev.pos c4 (Ev.neg d (Ev.cons (split_f v 32 hv) h2)))))⟩
  obtain ⟨b, l, hl, h1, h2⟩ := choice_ev a ha
  cases b with
  | true =>
    obtain ⟨r, g1, g2⟩ := has_ev l v (by omega)
    exact ⟨r, Ev.neg c1 (Ev.neg c2 (Ev.neg c3 (Ev.neg c4 (Ev.bind h1 (Ev.bind g1 Ev.pure))))), Ev.neg c1 (Ev.neg c2 (Ev.neg c3 (Ev.neg c4 (Ev.bind h2 (Ev.pos rfl (Ev.bind g2 Ev.pure))))))⟩
  | false =>
    obtain ⟨r, g1, _⟩ := has_ev [] v (by simp)
    have hr : r = false := by
      unfold spec_l3Has.f at g1
      refine Ev.uniq g1 (Ev.step ?_)
      simp only [spec_l3Has.l0]
      exact Ev.neg (by simp) Ev.pure
    subst hr
    exact ⟨false, Ev.neg c1 (Ev.neg c2 (Ev.neg c3 (Ev.neg c4 (Ev.bind h1 (Ev.bind g1 Ev.pure))))), Ev.neg c1 (Ev.neg c2 (Ev.neg c3 (Ev.neg c4 (Ev.bind h2 (Ev.neg (by simp) Ev.pure)))))⟩
theorem FnExactValueOk : laws_FnExactValueOk.Pure := by
  intro a v _ _
  refine Ev.at ?_
  unfold laws_FnExactValueOk.f
  by_cases c : (a.size : Int) > 1048576
  · exact Ev.pos c Ev.pure
  by_cases c2 : (v.size : Int) > 1048576
  · exact Ev.neg c (Ev.pos c2 Ev.pure)
  obtain ⟨b, h1, h2⟩ := value_ev a v (by omega) (by omega)
  exact Ev.neg c (Ev.neg c2 (Ev.bind h1 (Ev.bind h2 (Ev.neg (by simp) Ev.pure))))

end Go.Proofs.YtklinldidfdnjaaDoor.Pure
