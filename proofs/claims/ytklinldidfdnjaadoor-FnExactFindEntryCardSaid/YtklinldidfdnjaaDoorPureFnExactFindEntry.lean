/- The pure statement of FnExactFindEntry: both find the same place. -/
import Derived.Test.YtklinldidfdnjaaDoorPFnExactFindEntryx0
import Derived.Test.YtklinldidfdnjaaDoorPFnExactFindEntryx1
import Derived.Test.YtklinldidfdnjaaDoorPFnExactFindEntryx2
import Derived.Test.YtklinldidfdnjaaDoorPFnExactFindEntryx3
import Derived.Test.YtklinldidfdnjaaDoorPFnExactFindEntryx4
import Derived.Test.YtklinldidfdnjaaDoorPFnExactFindEntryx5
import Derived.Test.YtklinldidfdnjaaDoorPFnExactFindEntryx6
import Derived.Test.YtklinldidfdnjaaDoorPFnExactFindEntryx7
import Derived.Test.YtklinldidfdnjaaDoorPFnExactFindEntryx8
import Derived.Laws.BitsLemmas
import Derived.Laws.Bits64b
import Derived.Lib.Bytealg
namespace Go.Proofs.YtklinldidfdnjaaDoor.Pure
open Go.RowKit Go.Proofs.YtklinldidfdnjaaDoorW.PrintWords Go.Proofs.YtklinldidfdnjaaDoorW.PrintLast Go.Proofs.YtklinldidfdnjaaDoorW.PrintMore Go.Proofs.YtklinldidfdnjaaDoor.PFnExactFindEntry

theorem u64w (n : Int) (h0 : 0 ≤ n) (h1 : n < 18446744073709551616) : IntKind.u64.wrap n = n := by
  simp [IntKind.wrap, IntKind.signed, IntKind.bits]; omega
theorem i64w (n : Int) (h0 : -9223372036854775808 ≤ n) (h1 : n < 9223372036854775808) : IntKind.i64.wrap n = n := by
  rw [IntKind.wrap_i64]; omega
theorem w64 (n : Int) (h0 : -9223372036854775808 ≤ n) (h1 : n < 9223372036854775808) : wrap64 n = n := by unfold wrap64; omega
theorem up1 (i : Int) (h0 : 0 ≤ i) (h : i < 9223372036854775807) : wrap64 (i + 1) = i + 1 := by unfold wrap64; omega
theorem u64_lo (n : Int) : 0 ≤ IntKind.u64.wrap n := by simp [IntKind.wrap, IntKind.signed, IntKind.bits]; omega
theorem u64_hi (n : Int) : IntKind.u64.wrap n < 18446744073709551616 := by simp [IntKind.wrap, IntKind.signed, IntKind.bits]; omega
theorem u64_wf (x : Int) (h : (Lit.int .u64 x).wf = true) : 0 ≤ x ∧ x < 18446744073709551616 := by
  simp [Lit.wf, IntKind.min, IntKind.max, IntKind.signed, IntKind.bits] at h; omega
theorem and31 (x : Int) (h0 : 0 ≤ x) (h1 : x < 18446744073709551616) : Go.bits .and .u64 x 31 = x % 32 := by
  have := bits_mask .u64 64 (by decide) (fun n a b => u64w n a (by simpa using b)) 5 (by decide) x h0 (by simpa using h1)
  simpa using this
theorem or5 (a c : Int) (h0 : 0 ≤ a) (h1 : a * 32 < 18446744073709551616) (hc0 : 0 ≤ c) (hc : c < 32) : Go.bits .or .u64 (a * 32) c = a * 32 + c := by
  have := bits_join .u64 64 (by decide) (fun n x y => u64w n x (by simpa using y)) 5 (a * 32) c (by omega) (by omega) (by simpa using h1) hc0 (by simpa using hc) (by simp; omega)
  exact this
theorem bt_list (l : List UInt8) (i : Int) : bt ⟨l.toArray⟩ i = ((l.getD i.toNat 0).toNat : Int) := by
  unfold bt
  split
  · rename_i h
    have h' : i.toNat < l.length := by simpa [ByteArray.size] using h
    rw [List.getD_eq_getElem?_getD, List.getElem?_eq_getElem h']
    rfl
  · rename_i h
    have h' : l.length ≤ i.toNat := by simpa [ByteArray.size] using h
    rw [List.getD_eq_getElem?_getD, List.getElem?_eq_none h']; rfl
/-- The alphabet of chapter 1. -/
def alpha : ByteArray := ⟨#[48, 49, 50, 51, 52, 53, 54, 55, 56, 57, 97, 98, 99, 100, 102, 103, 104, 105, 106, 107, 108, 109, 110, 112, 113, 114, 115, 118, 119, 120, 121, 122]⟩
/-- The n-th digit from the right, as its byte. -/
def dg (x : Int) (n : Nat) : Int := bt alpha (x / 2 ^ (5 * n) % 32)
/-- The last n digits. -/
def ds (x : Int) : Nat → List Int
  | 0 => []
  | n + 1 => dg x n :: ds x n
theorem ds_length (x : Int) : ∀ n, (ds x n).length = n
  | 0 => rfl
  | n + 1 => by simp [ds, ds_length x n]
/-- The thirteen bytes. -/
def word (x : Int) : ByteArray := strOfNums (ds x 13)
theorem div_lo (x : Int) (h0 : 0 ≤ x) (n : Nat) : 0 ≤ x / 2 ^ n := Int.ediv_nonneg h0 (by have := Nat.two_pow_pos n; exact_mod_cast Nat.zero_le _)
theorem div_hi (x : Int) (h0 : 0 ≤ x) (n : Nat) : x / 2 ^ n ≤ x := Int.ediv_le_self _ h0
theorem shr5 (x : Int) (n : Nat) (hn : n ≤ 12) : shr .u64 x (5 * n) = x / 2 ^ (5 * n) := by
  unfold shr
  have e : (5 * (n : Int)).toNat = 5 * n := by omega
  rw [e, Nat.min_eq_left (by simp [IntKind.bits]; omega)]
/-- What a byte is worth as a digit; -1: it is none. -/
def dv (c : Int) : Int := Lib.indexByte alpha.data.toList c.toNat.toUInt8
theorem dv_all : ∀ c : Fin 256, -1 ≤ dv (c.val : Int) ∧ dv (c.val : Int) < 32 := by decide +kernel
theorem dv_bounds (c : Int) (h0 : 0 ≤ c) (h1 : c ≤ 255) : -1 ≤ dv c ∧ dv c < 32 := by
  have := dv_all ⟨c.toNat, by omega⟩
  simpa [Int.toNat_of_nonneg h0] using this
/-- The number that thirteen digits tell, from the i-th on. -/
def rwGo (s : ByteArray) : Nat → Int → Nat → Int × Bool
  | 0, x, _ => (x, true)
  | d + 1, x, i => if dv (bt s i) < 0 then (0, false) else if i = 0 ∧ dv (bt s i) > 15 then (0, false) else rwGo s d (x * 32 + dv (bt s i)) (i + 1)
def rw32 (s : ByteArray) : Int × Bool := if s.size = 13 then rwGo s 13 0 0 else (0, false)
/-- The bound that the digits so far keep. -/
def lim (d : Nat) : Int := if d = 13 then 1 else 2 ^ (64 - 5 * d)
theorem lim_all : ∀ d : Fin 13, lim d.val ≤ 18446744073709551616 ∧ 0 < lim d.val ∧ (d.val < 12 → lim (d.val + 1) * 32 = lim d.val) ∧ (d.val = 12 → lim d.val = 16) ∧ lim (d.val + 1) * 32 ≤ 18446744073709551616 := by decide +kernel
theorem word_size (x : Int) : (word x).size = 13 := by unfold word; rw [strOfNums_size, ds_length]

-- Ev
/-- With fuel enough the run answers r. -/
def Ev {α : Type} (f : Nat → Option α) (r : α) : Prop := ∃ K, ∀ k, K ≤ k → f k = some r
theorem Ev.pure {α : Type} {r : α} : Ev (fun _ => some r) r := ⟨0, fun _ _ => rfl⟩
theorem Ev.of {α : Type} {f : Nat → Option α} {r : α} (N : Nat) (h : ∀ k, N ≤ k → f k = some r) : Ev f r := ⟨N, h⟩
theorem Ev.step {α : Type} {f : Nat → Option α} {r : α} (h : Ev (fun k => f (k + 1)) r) : Ev f r := by
  obtain ⟨K, h⟩ := h
  refine ⟨K + 1, fun k hk => ?_⟩
  obtain ⟨m, rfl⟩ : ∃ m, k = m + 1 := ⟨k - 1, by omega⟩
  exact h m (by omega)
theorem Ev.bind {α β : Type} {f : Nat → Option α} {g : Nat → α → Option β} {a : α} {r : β} (h : Ev f a) (h2 : Ev (fun k => g k a) r) : Ev (fun k => (f k).bind (g k)) r := by
  obtain ⟨K, h⟩ := h
  obtain ⟨K2, h2⟩ := h2
  refine ⟨K + K2, fun k hk => ?_⟩
  show (f k).bind (g k) = some r
  rw [h k (by omega)]
  exact h2 k (by omega)
theorem Ev.cons {α β : Type} {x : Option α} {g : Nat → α → Option β} {a : α} {r : β} (h : x = some a) (h2 : Ev (fun k => g k a) r) : Ev (fun k => x.bind (g k)) r := by
  subst h
  exact h2
theorem Ev.pos {α : Type} {c : Prop} [Decidable c] {f g : Nat → Option α} {r : α} (hc : c) (h : Ev f r) : Ev (fun k => if c then f k else g k) r := by
  simpa only [if_pos hc] using h
theorem Ev.neg {α : Type} {c : Prop} [Decidable c] {f g : Nat → Option α} {r : α} (hc : ¬ c) (h : Ev g r) : Ev (fun k => if c then f k else g k) r := by
  simpa only [if_neg hc] using h
theorem Ev.at {α : Type} {f : Nat → Option α} {r : α} (h : Ev f r) : ∃ k, f k = some r := by
  obtain ⟨K, h⟩ := h
  exact ⟨K, h K (Nat.le_refl _)⟩
theorem Ev.uniq {α : Type} {f : Nat → Option α} {r s : α} (h : Ev f r) (h2 : Ev f s) : r = s := by
  obtain ⟨K, h⟩ := h
  obtain ⟨K2, h2⟩ := h2
  have a := h (K + K2) (by omega)
  have b := h2 (K + K2) (by omega)
  rw [a] at b
  exact Option.some.inj b
/-- From the end down. -/
theorem downTo (n : Nat) (P : Nat → Prop) (base : P n) (step : ∀ i, i < n → P (i + 1) → P i) : ∀ i, i ≤ n → P i := by
  intro i hi
  obtain ⟨d, rfl⟩ : ∃ d, i = n - d := ⟨n - i, by omega⟩
  clear hi
  induction d with
  | zero => exact base
  | succ d ih =>
    by_cases h : d < n
    · refine step _ (by omega) ?_
      have e : n - (d + 1) + 1 = n - d := by omega
      rw [e]; exact ih
    · have e : n - (d + 1) = n - d := by omega
      rw [e]; exact ih
theorem upN (i : Nat) (h : i < 1000000000000000) : wrap64 ((i : Int) + 1) = ((i + 1 : Nat) : Int) := by unfold wrap64; omega
theorem dnN (i : Nat) (h : i < 1000000000000000) (h0 : 0 < i) : wrap64 ((i : Int) - 1) = ((i - 1 : Nat) : Int) := by unfold wrap64; omega
/-- A loop that sets place by place leaves the row's picture. -/
theorem setLoop {A B : Type} (L : Nat → List B → Int → Option (List B)) (x : List A) (c : A → B)
    (step : ∀ (i : Nat) (y : List B) (r : List B) (h : i < x.length), y.length = x.length → Ev (fun k => L k (y.set i (c x[i])) ((i + 1 : Nat) : Int)) r → Ev (fun k => L k y (i : Int)) r)
    (stop : ∀ y : List B, y.length = x.length → Ev (fun k => L k y ((x.length : Nat) : Int)) y) :
    ∀ y : List B, y.length = x.length → Ev (fun k => L k y 0) (x.map c) := by
  have main := downTo x.length (fun i => ∀ y : List B, y.length = x.length → y.take i = (x.map c).take i → Ev (fun k => L k y (i : Int)) (x.map c)) ?_ ?_
  · intro y hy
    exact main 0 (by omega) y hy (by simp)
  · intro y hy he
    rw [List.take_of_length_le (by omega), List.take_of_length_le (by simp)] at he
    have := stop y hy
    rw [he] at this
    rw [he] at hy
    exact he ▸ stop y (by rw [he]; exact hy)
  · intro i hi ih y hy he
    refine step i y _ hi hy (ih _ (by simp [hy]) ?_)
    rw [List.take_add_one, List.take_add_one, List.take_set_of_le (by omega), he, List.getElem?_set_self (by omega)]
    simp [List.getElem?_eq_getElem hi]
theorem countLoop {α : Type} (L : Nat → Int → Option α) (n : Nat) (r : α) (step : ∀ i : Nat, i < n → Ev (fun k => L k ((i + 1 : Nat) : Int)) r → Ev (fun k => L k (i : Int)) r) (stop : Ev (fun k => L k ((n : Nat) : Int)) r) : Ev (fun k => L k 0) r :=
  downTo n (fun i => Ev (fun k => L k (i : Int)) r) stop (fun i hi h => step i hi h) 0 (by omega)

-- NameOk
def nmByte (c : Int) : Bool := (decide (97 ≤ c) && decide (c ≤ 122)) || (decide (65 ≤ c) && decide (c ≤ 90)) || (decide (48 ≤ c) && decide (c ≤ 57)) || c == 45 || c == 95 || c == 46 || c == 43
/-- Are n bytes from the i-th on those of a name? -/
def nmGo (s : ByteArray) : Nat → Nat → Bool
  | 0, _ => true
  | d + 1, i => nmByte (bt s i) && nmGo s d (i + 1)
/-- A name. -/
def nmOk (s : ByteArray) : Bool := decide (1 ≤ s.size) && decide (s.size ≤ 60) && !(bt s 0 == 46) && nmGo s s.size 0
theorem l1Letter_f (c : Int) : spec_l1Letter.f c = some ((decide (97 ≤ c) && decide (c ≤ 122)) || (decide (65 ≤ c) && decide (c ≤ 90))) := by
  unfold spec_l1Letter.f
  by_cases h1 : 97 ≤ c <;> by_cases h2 : c ≤ 122 <;> by_cases h3 : 65 ≤ c <;> by_cases h4 : c ≤ 90 <;> simp [h1, h2, h3, h4] <;> omega
theorem l1Digit_f (c : Int) : spec_l1Digit.f c = some (decide (48 ≤ c) && decide (c ≤ 57)) := by
  unfold spec_l1Digit.f
  by_cases h1 : 48 ≤ c <;> by_cases h2 : c ≤ 57 <;> simp [h1, h2]
theorem letter_f (c : Int) : impl_letter.f c = some ((decide (97 ≤ c) && decide (c ≤ 122)) || (decide (65 ≤ c) && decide (c ≤ 90))) := by
  unfold impl_letter.f
  by_cases h1 : 97 ≤ c <;> by_cases h2 : c ≤ 122 <;> by_cases h3 : 65 ≤ c <;> by_cases h4 : c ≤ 90 <;> simp [h1, h2, h3, h4] <;> omega
theorem digit_f (c : Int) : impl_digit.f c = some (decide (48 ≤ c) && decide (c ≤ 57)) := by
  unfold impl_digit.f
  by_cases h1 : 48 ≤ c <;> by_cases h2 : c ≤ 57 <;> simp [h1, h2]
theorem spec_NameOk_loop (s : ByteArray) (hs : s.size ≤ 60) : ∀ (d i k : Nat), i + d = s.size → d < k → spec_NameOk.l0 k s (i : Int) = some (nmGo s d i) := by
  intro d
  induction d with
  | zero =>
    intro i k hi hk
    obtain ⟨k, rfl⟩ : ∃ m, k = m + 1 := ⟨k - 1, by omega⟩
    simp only [spec_NameOk.l0]; rw [if_neg (by omega)]; rfl
  | succ d ih =>
    intro i k hi hk
    obtain ⟨k, rfl⟩ : ∃ m, k = m + 1 := ⟨k - 1, by omega⟩
    have e3 : wrap64 ((i : Int) + 1) = ((i + 1 : Nat) : Int) := by rw [up1 _ (by omega) (by omega)]; omega
    simp only [spec_NameOk.l0, nmGo, nmByte]
    rw [if_pos (by omega), if_pos (by omega), l1Letter_f, l1Digit_f, e3, ih (i + 1) k (by omega) (by omega)]
    simp only [Option.bind_some]
    generalize bt s (i : Int) = c
    generalize nmGo s d (i + 1) = g
    generalize ((decide (97 ≤ c) && decide (c ≤ 122)) || (decide (65 ≤ c) && decide (c ≤ 90))) = p
    generalize (decide (48 ≤ c) && decide (c ≤ 57)) = q
    cases p <;> cases q <;> simp
    by_cases h1 : c = 45
    · simp [h1]
    · by_cases h2 : c = 95
      · simp [h2]
      · by_cases h3 : c = 46
        · simp [h3]
        · by_cases h4 : c = 43
          · simp [h4]
          · simp [h1, h2, h3, h4]
theorem spec_NameOk_f (s : ByteArray) (k : Nat) (hk : 63 ≤ k) : spec_NameOk.f k s = some (nmOk s) := by
  obtain ⟨k, rfl⟩ : ∃ m, k = m + 1 := ⟨k - 1, by omega⟩
  unfold spec_NameOk.f nmOk
  simp only [spec_NameOk.j0]
  by_cases h1 : (s.size : Int) < 1
  · rw [if_pos h1]
    have : ¬ 1 ≤ s.size := by omega
    simp [this]
  · rw [if_neg h1]
    have e1 : 1 ≤ s.size := by omega
    by_cases h2 : (s.size : Int) > 60
    · rw [if_pos h2]
      have : ¬ s.size ≤ 60 := by omega
      simp [this]
    · rw [if_neg h2, if_pos (by omega)]
      have e2 : s.size ≤ 60 := by omega
      have h := spec_NameOk_loop s e2 s.size 0 k (by omega) (by omega)
      rw [show ((0 : Nat) : Int) = 0 from rfl] at h
      rw [h]
      by_cases h3 : bt s 0 = 46
      · simp [h3]
      · simp [h3, e1, e2]
theorem w32_byte (s : ByteArray) (i : Int) : wrap32 (bt s i) = bt s i := by
  have := bt_range s i
  unfold wrap32; omega
theorem impl_NameOk_loop (s : ByteArray) (hs : s.size ≤ 60) : ∀ (d i k : Nat), i + d = s.size → d < k → impl_NameOk.l0 k s (s.size : Int) (i : Int) = some (nmGo s d i) := by
  intro d
  induction d with
  | zero =>
    intro i k hi hk
    obtain ⟨k, rfl⟩ : ∃ m, k = m + 1 := ⟨k - 1, by omega⟩
    simp only [impl_NameOk.l0]; rw [if_neg (by omega)]; rfl
  | succ d ih =>
    intro i k hi hk
    obtain ⟨k, rfl⟩ : ∃ m, k = m + 1 := ⟨k - 1, by omega⟩
    have e3 : wrap64 ((i : Int) + 1) = ((i + 1 : Nat) : Int) := by rw [up1 _ (by omega) (by omega)]; omega
    have hb := bt_range s (i : Int)
    have e4 : strings_ContainsRune.f (⟨#[45, 95, 46, 43]⟩ : ByteArray) (bt s (i : Int)) = some (bt s (i : Int) == 45 || bt s (i : Int) == 95 || bt s (i : Int) == 46 || bt s (i : Int) == 43) := by
      unfold strings_ContainsRune.f
      rw [if_pos (by rw [Lib.toList_data]), if_pos (by omega)]
    simp only [impl_NameOk.l0, nmGo, nmByte]
    rw [if_pos (by omega), if_pos (by omega), if_pos (by omega), letter_f, digit_f, w32_byte, e4, e3, ih (i + 1) k (by omega) (by omega)]
    simp only [Option.bind_some]
    generalize bt s (i : Int) = c
    generalize nmGo s d (i + 1) = g
    generalize ((decide (97 ≤ c) && decide (c ≤ 122)) || (decide (65 ≤ c) && decide (c ≤ 90))) = p
    generalize (decide (48 ≤ c) && decide (c ≤ 57)) = q
    generalize (c == 45) = r1
    generalize (c == 95) = r2
    generalize (c == 46) = r3
    generalize (c == 43) = r4
    cases p <;> cases q <;> cases r1 <;> cases r2 <;> cases r3 <;> cases r4 <;> simp
theorem impl_NameOk_f (s : ByteArray) (k : Nat) (hk : 63 ≤ k) : impl_NameOk.f k s = some (nmOk s) := by
  obtain ⟨k, rfl⟩ : ∃ m, k = m + 1 := ⟨k - 1, by omega⟩
  unfold impl_NameOk.f nmOk
  simp only [impl_NameOk.j0]
  by_cases h1 : (s.size : Int) < 1
  · rw [if_pos h1]
    have : ¬ 1 ≤ s.size := by omega
    simp [this]
  · rw [if_neg h1]
    have e1 : 1 ≤ s.size := by omega
    by_cases h2 : (s.size : Int) > 60
    · rw [if_pos h2]
      have : ¬ s.size ≤ 60 := by omega
      simp [this]
    · rw [if_neg h2, if_pos (by omega)]
      have e2 : s.size ≤ 60 := by omega
      have h := impl_NameOk_loop s e2 s.size 0 k (by omega) (by omega)
      rw [show ((0 : Nat) : Int) = 0 from rfl] at h
      rw [h]
      by_cases h3 : bt s 0 = 46
      · simp [h3]
      · simp [h3, e1, e2]

-- Ex
theorem ex_data (s : ByteArray) (a b : Nat) : (s.extract a b).data.toList = (s.data.toList.drop a).take (b - a) := by rw [← Lib.toList_data, Lib.extract_toList]
theorem bt_ex (s : ByteArray) (a i : Nat) (h : a + i < s.size) : bt (s.extract a s.size) (i : Int) = bt s ((a + i : Nat) : Int) := by
  rw [← bt_at s ((a + i : Nat) : Int) (by rw [Int.toNat_natCast]; exact h), ← bt_at (s.extract a s.size) (i : Int) (by rw [ByteArray.size_extract]; simp; omega)]
  congr 2
  simp only [Int.toNat_natCast]
  rw [ByteArray.getElem_extract]

-- SplitB
/-- The byte does not stand in the text. -/
def noB (c : UInt8) (a : ByteArray) : Prop := c ∉ a.data.toList
def one (c : UInt8) : ByteArray := ⟨#[c]⟩
theorem ib_none (c : UInt8) : ∀ (a : List UInt8), c ∉ a → Lib.indexByte a c = -1
  | [], _ => rfl
  | x :: a, h => by
    have h1 : (x == c) = false := by
      rw [beq_eq_false_iff_ne]
      intro e
      exact h (by rw [e]; exact List.mem_cons_self)
    unfold Lib.indexByte
    rw [h1, ib_none c a (fun hm => h (List.mem_cons_of_mem _ hm))]
    rfl
theorem ib_app (c : UInt8) (b : List UInt8) : ∀ (a : List UInt8), c ∉ a → Lib.indexByte (a ++ c :: b) c = (a.length : Int)
  | [], _ => by simp [Lib.indexByte]
  | x :: a, h => by
    have h1 : (x == c) = false := by
      rw [beq_eq_false_iff_ne]
      intro e
      exact h (by rw [e]; exact List.mem_cons_self)
    have ih := ib_app c b a (fun hm => h (List.mem_cons_of_mem _ hm))
    show Lib.indexByte (x :: (a ++ c :: b)) c = _
    unfold Lib.indexByte
    rw [h1, ih]
    simp only [List.length_cons, Bool.false_eq_true, if_false]
    have : ((a.length : Int) == -1) = false := by rw [beq_eq_false_iff_ne]; omega
    rw [this]
    simp
theorem app_data (a b : ByteArray) (c : UInt8) : ((a ++ one c) ++ b).data.toList = a.data.toList ++ c :: b.data.toList := by
  rw [ByteArray.data_append, ByteArray.data_append, Array.toList_append, Array.toList_append]
  show (a.data.toList ++ [c]) ++ b.data.toList = _
  rw [List.append_assoc]
  rfl
theorem indexB_none {c : UInt8} {s : ByteArray} (h : noB c s) : Lib.indexB s (one c) = -1 := by
  show Lib.index s.data.toList [c] = -1
  rw [Lib.index_one]
  exact ib_none c _ h
theorem indexB_app {c : UInt8} {a b : ByteArray} (h : noB c a) : Lib.indexB ((a ++ one c) ++ b) (one c) = (a.size : Int) := by
  show Lib.index ((a ++ one c) ++ b).data.toList [c] = _
  rw [Lib.index_one, app_data, ib_app c _ _ h, Array.length_toList]
  rfl
theorem countB_none {c : UInt8} {s : ByteArray} (h : noB c s) : Lib.countB s (one c) = 0 := by
  show Lib.count s.data.toList [c] = 0
  rw [Lib.count_one]
  exact List.count_eq_zero.2 h
theorem countB_app {c : UInt8} {a b : ByteArray} (h : noB c a) : Lib.countB ((a ++ one c) ++ b) (one c) = Lib.countB b (one c) + 1 := by
  show Lib.count ((a ++ one c) ++ b).data.toList [c] = Lib.count b.data.toList [c] + 1
  rw [Lib.count_one, Lib.count_one, app_data, List.count_append, List.count_cons_self, List.count_eq_zero.2 h]
  omega
/-- The pieces between the bytes c. -/
def spl (c : UInt8) (s : ByteArray) : List ByteArray := Lib.splitB (one c) 0 (Lib.countB s (one c)) s
theorem spl_none {c : UInt8} {s : ByteArray} (h : noB c s) : spl c s = [s] := Lib.splitB_miss _ _ _ _ (indexB_none h)
theorem spl_cons {c : UInt8} {a b : ByteArray} (h : noB c a) : spl c ((a ++ one c) ++ b) = a :: spl c b := by
  unfold spl
  rw [countB_app h, Lib.splitB_hit _ _ _ _ _ (indexB_app h)]
  have h1 : ((a ++ one c) ++ b).extract 0 (a.size + 0) = a := by
    rw [ByteArray.append_assoc]
    exact ByteArray.extract_append_eq_left rfl
  have h2 : ((a ++ one c) ++ b).extract (a.size + (one c).size) ((a ++ one c) ++ b).size = b :=
    ByteArray.extract_append_eq_right (by rw [ByteArray.size_append]) (by rw [ByteArray.size_append])
  rw [h1, h2]
/-- A text has no such byte, or falls in two at the first. -/
theorem cutB (c : UInt8) (s : ByteArray) : noB c s ∨ ∃ a b, noB c a ∧ s = (a ++ one c) ++ b := by
  by_cases h : c ∈ s.data.toList
  · right
    obtain ⟨x, y, hxy, hx⟩ : ∃ x y, s.data.toList = x ++ c :: y ∧ c ∉ x := by
      generalize s.data.toList = l at h
      induction l with
      | nil => simp at h
      | cons z l ih =>
        by_cases e : z = c
        · subst e
          exact ⟨[], l, rfl, by simp⟩
        · have hl : c ∈ l := by
            rcases List.mem_cons.1 h with h | h
            · exact absurd h.symm e
            · exact h
          obtain ⟨x, y, e1, e2⟩ := ih hl
          refine ⟨z :: x, y, by rw [e1]; rfl, ?_⟩
          intro hm
          rcases List.mem_cons.1 hm with hm | hm
          · exact e hm.symm
          · exact e2 hm
    refine ⟨⟨x.toArray⟩, ⟨y.toArray⟩, by simpa [noB] using hx, ?_⟩
    apply ByteArray.ext
    apply Array.ext'
    rw [app_data, hxy]
  · exact Or.inl h
theorem spl_ne (c : UInt8) (s : ByteArray) : spl c s ≠ [] := by
  rcases cutB c s with h | ⟨a, b, h, rfl⟩
  · rw [spl_none h]; simp
  · rw [spl_cons h]; simp
theorem noB_bt {c : UInt8} {a : ByteArray} : noB c a ↔ ∀ i : Nat, i < a.size → bt a (i : Int) ≠ (c.toNat : Int) := by
  unfold noB
  constructor
  · intro h i hi e
    apply h
    rw [← bt_at a (i : Int) (by simpa using hi)] at e
    have e2 : a[i]'hi = c := UInt8.toNat.inj (by exact_mod_cast e)
    rw [← e2]
    simp only [ByteArray.getElem_eq_getElem_data]
    exact Array.getElem_mem_toList _
  · intro h hm
    obtain ⟨i, hi, e⟩ := List.mem_iff_getElem.1 hm
    have hi' : i < a.size := by rw [Array.length_toList] at hi; exact hi
    apply h i hi'
    rw [← bt_at a (i : Int) (by simpa using hi')]
    have e2 : a[i]'hi' = c := by
      rw [← e]
      rfl
    have : (a[((i : Nat) : Int).toNat]'(by simpa using hi')) = c := e2
    rw [this]
theorem cutAt (s : ByteArray) (c : UInt8) (k : Nat) (hk : k < s.size) (h : bt s (k : Int) = (c.toNat : Int)) : s = (s.extract 0 k ++ one c) ++ s.extract (k + 1) s.size := by
  have hl : k < s.data.toList.length := by rw [Array.length_toList]; exact hk
  have hc : s.data.toList[k] = c := by
    rw [← bt_at s (k : Int) (by simpa using hk)] at h
    have e2 : s[k]'hk = c := UInt8.toNat.inj (by exact_mod_cast h)
    rw [← e2]
    rfl
  apply ByteArray.ext
  apply Array.ext'
  rw [app_data, ex_data, ex_data, List.drop_zero, Nat.sub_zero]
  have e : (s.data.toList.drop (k + 1)).take (s.size - (k + 1)) = s.data.toList.drop (k + 1) := List.take_of_length_le (by rw [List.length_drop, Array.length_toList]; exact Nat.le_refl _)
  rw [e, ← hc, ← List.drop_eq_getElem_cons hl, List.take_append_drop]

-- SplN
theorem spl_next (s : ByteArray) (i j : Nat) (hij : i ≤ j) (hj : j < s.size) : ∃ c : UInt8, (c.toNat : Int) = bt s (j : Int) ∧ (s.extract i (j + 1)).data.toList = (s.extract i j).data.toList ++ [c] := by
  have hl : j < s.data.toList.length := by rw [Array.length_toList]; exact hj
  refine ⟨s.data.toList[j], ?_, ?_⟩
  · rw [← bt_at s (j : Int) (by simpa using hj)]
    rfl
  · rw [ex_data, ex_data, show j + 1 - i = (j - i) + 1 by omega, List.take_add_one, List.getElem?_drop, show i + (j - i) = j by omega, List.getElem?_eq_getElem hl]
    rfl

-- Entry
def cEn (x : S77) : S79 := ⟨x.f0, x.f1, x.f2, x.f3⟩
theorem rd77 (l : List S77) (i : Nat) (h : i < l.length) : rd_T77 l (i : Int) = l[i] := by unfold rd_T77; simp [List.getD_eq_getElem?_getD, List.getElem?_eq_getElem h]
theorem rd79 (l : List S79) (i : Nat) (h : i < l.length) : rd_T79 l (i : Int) = l[i] := by unfold rd_T79; simp [List.getD_eq_getElem?_getD, List.getElem?_eq_getElem h]
theorem szEntry_ok (a : ByteArray) (e : Int) (b : ByteArray) (d : Bool) (m : Int) (h0 : 0 ≤ m) (h1 : m ≤ 1048576) (ha : a.size ≤ 9223372036854775807) (hb : b.size ≤ 9223372036854775807) :
    ∃ t, laws_szEntry.f a e b d m = some t ∧ (0 ≤ t → t ≤ m ∧ a.size ≤ 1048576 ∧ b.size ≤ 1048576) ∧ t ≤ 1048576 := by
  unfold laws_szEntry.f
  rw [w64 (m - (a.size : Int)) (by omega) (by omega)]
  by_cases h : m - (a.size : Int) < 0
  · rw [if_pos h]; exact ⟨-1, rfl, by omega, by omega⟩
  · rw [if_neg h, w64 (m - (a.size : Int) - (b.size : Int)) (by omega) (by omega)]
    by_cases h2 : m - (a.size : Int) - (b.size : Int) < 0
    · rw [if_pos h2]; exact ⟨-1, rfl, by omega, by omega⟩
    · rw [if_neg h2]; exact ⟨_, rfl, by omega, by omega⟩
theorem szEntryS_ev (x : List S77) (hx : x.length ≤ 9223372036854775807) (m : Int) (h0 : 0 ≤ m) (h1 : m ≤ 1048576) (ok : ∀ g ∈ x, g.f0.size ≤ 9223372036854775807 ∧ g.f2.size ≤ 9223372036854775807) : ∃ t, Ev (fun k => laws_szEntryS.f k x m) t ∧ (0 ≤ t → x.length ≤ 1048576 ∧ ∀ g ∈ x, g.f0.size ≤ 1048576 ∧ g.f2.size ≤ 1048576) := by
  unfold laws_szEntryS.f
  rw [w64 _ (by omega) (by omega)]
  by_cases h : m - (x.length : Int) < 0
  · exact ⟨_, Ev.pos h Ev.pure, by omega⟩
  · have key := downTo x.length (fun i => ∀ a : Int, 0 ≤ a → a ≤ 1048576 → ∃ t, Ev (fun k => laws_szEntryS.l0 k x a (i : Int)) t ∧ (0 ≤ t → ∀ g ∈ x.drop i, g.f0.size ≤ 1048576 ∧ g.f2.size ≤ 1048576)) ?_ ?_ 0 (by omega)
    · obtain ⟨t, a, b⟩ := key (m - (x.length : Int)) (by omega) (by omega)
      exact ⟨t, Ev.neg h a, fun h3 => ⟨by omega, by simpa using b h3⟩⟩
    · intro a a0 a1
      refine ⟨a, Ev.step ?_, by simp⟩
      simp only [laws_szEntryS.l0]
      exact Ev.neg (by omega) Ev.pure
    · intro i hi ih a a0 a1
      obtain ⟨o1, o2⟩ := ok _ (List.getElem_mem hi)
      obtain ⟨t, ht, hm, hn⟩ := szEntry_ok (x[i]).f0 (x[i]).f1 (x[i]).f2 (x[i]).f3 a a0 a1 o1 o2
      by_cases h2 : t < 0
      · refine ⟨-1, Ev.step ?_, by omega⟩
        simp only [laws_szEntryS.l0, rd77 x i hi]
        exact Ev.pos (by omega) (Ev.pos (by omega) (Ev.cons ht (Ev.pos h2 Ev.pure)))
      · obtain ⟨r, hr, hr2⟩ := ih t (by omega) hn
        refine ⟨r, Ev.step ?_, ?_⟩
        · simp only [laws_szEntryS.l0, rd77 x i hi, upN i (by omega)]
          exact Ev.pos (by omega) (Ev.pos (by omega) (Ev.cons ht (Ev.neg h2 hr)))
        · intro h3 p hp
          rw [List.drop_eq_getElem_cons hi] at hp
          rcases List.mem_cons.1 hp with rfl | hp
          · exact (hm (by omega)).2
          · exact hr2 h3 p hp
theorem toEntryS_ev (x : List S77) (hx : x.length ≤ 1048576) : Ev (fun k => laws_toEntryS.f k x) (x.map cEn) := by
  unfold laws_toEntryS.f
  refine Ev.pos (by omega) (Ev.pos (by omega) ?_)
  refine setLoop (fun k y i => laws_toEntryS.l0 k x y i) x cEn ?_ ?_ _ (by simp)
  · intro i y r hi hy h
    refine Ev.step ?_
    simp only [laws_toEntryS.l0, rd77 x i hi, upN i (by omega), laws_toEntry.f]
    exact Ev.pos (by omega) (Ev.pos (by omega) (Ev.cons rfl (Ev.pos (by omega) h)))
  · intro y hy
    refine Ev.step ?_
    simp only [laws_toEntryS.l0]
    exact Ev.neg (by omega) Ev.pure
theorem eqEntryS_ev (x : List S79) (hx : x.length ≤ 1048576) : Ev (fun k => laws_eqEntryS.f k x x) true := by
  unfold laws_eqEntryS.f
  refine Ev.pos rfl ?_
  refine countLoop (fun k i => laws_eqEntryS.l0 k x x i) x.length true ?_ ?_
  · intro i hi h
    refine Ev.step ?_
    simp only [laws_eqEntryS.l0, rd79 x i hi, upN i (by omega), laws_eqEntry.f]
    exact Ev.pos (by omega) (Ev.pos (by omega) (Ev.pos (by omega) (Ev.bind (Ev.pos trivial (Ev.pos trivial (Ev.pos trivial (Ev.neg (by simp) Ev.pure)))) (Ev.pos rfl h))))
  · refine Ev.step ?_
    simp only [laws_eqEntryS.l0]
    exact Ev.neg (by omega) Ev.pure

-- PathOk
theorem spl_len (c : UInt8) : ∀ (n : Nat) (s : ByteArray), s.size ≤ n → (spl c s).length ≤ n + 1 := by
  intro n
  induction n with
  | zero =>
    intro s hs
    rcases cutB c s with h | ⟨a, b, h, rfl⟩
    · rw [spl_none h]; simp
    · exfalso
      rw [ByteArray.size_append, ByteArray.size_append] at hs
      have : (one c).size = 1 := rfl
      omega
  | succ n ih =>
    intro s hs
    rcases cutB c s with h | ⟨a, b, h, rfl⟩
    · rw [spl_none h]; simp
    · rw [spl_cons h]
      rw [ByteArray.size_append, ByteArray.size_append] at hs
      have : (one c).size = 1 := rfl
      have := ih b (by omega)
      rw [List.length_cons]
      omega
theorem split_f (s : ByteArray) (c : UInt8) (hs : s.size ≤ 1048576) : strings_Split.f s (⟨#[c]⟩ : ByteArray) = some (spl c s) := by
  unfold strings_Split.f
  rw [if_pos ⟨rfl, by omega⟩]
  rfl
theorem sNm (s : ByteArray) : Ev (fun k => spec_NameOk.f k s) (nmOk s) := Ev.of 63 (fun k hk => spec_NameOk_f s k hk)
theorem iNm (s : ByteArray) : Ev (fun k => impl_NameOk.f k s) (nmOk s) := Ev.of 63 (fun k hk => impl_NameOk_f s k hk)
theorem rdB (l : List ByteArray) (i : Nat) (h : i < l.length) : rdOf ByteArray.empty l (i : Int) = l[i] := by unfold rdOf; simp [List.getD_eq_getElem?_getD, List.getElem?_eq_getElem h]
/-- A path: one to eight names between '/'. -/
def pk (s : ByteArray) : Bool := decide ((spl 47 s).length ≤ 8) && (spl 47 s).all nmOk
theorem impl_pathOk_ev (s : ByteArray) (hs : s.size ≤ 1048576) : Ev (fun k => impl_pathOk.f k s) (pk s) := by
  have hl := spl_len 47 1048576 s hs
  unfold impl_pathOk.f pk
  refine Ev.cons (split_f s 47 hs) ?_
  by_cases c : ((spl 47 s).length : Int) > 8
  · have : decide ((spl 47 s).length ≤ 8) = false := decide_eq_false (by omega)
    rw [this, Bool.false_and]
    exact Ev.pos c Ev.pure
  · have : decide ((spl 47 s).length ≤ 8) = true := decide_eq_true (by omega)
    rw [this, Bool.true_and]
    refine Ev.neg c ?_
    generalize spl 47 s = l at hl
    have key := downTo l.length (fun i => Ev (fun k => impl_pathOk.l0 k l (l.length : Int) (i : Int)) ((l.drop i).all nmOk)) ?_ ?_ 0 (by omega)
    · simpa using key
    · refine Ev.step ?_
      simp only [impl_pathOk.l0]
      rw [List.drop_length]
      exact Ev.neg (by omega) Ev.pure
    · intro i hi ih
      refine Ev.step ?_
      simp only [impl_pathOk.l0, rdB l i hi, upN i (by omega)]
      rw [List.drop_eq_getElem_cons hi, List.all_cons]
      refine Ev.pos (by omega) (Ev.pos (by omega) (Ev.pos (by omega) (Ev.bind (iNm _) ?_)))
      by_cases h : nmOk l[i] = true
      · rw [h, Bool.true_and]
        exact Ev.pos rfl ih
      · rw [Bool.eq_false_iff.mpr h, Bool.false_and]
        exact Ev.neg (by simp) Ev.pure
theorem l10Names_run (s : ByteArray) (hs : s.size ≤ 1048576) : ∀ j, j ≤ s.size → ∀ (i : Nat) (acc : List ByteArray), i ≤ j → acc.length ≤ 8 → noB 47 (s.extract i j) →
    ∃ l, Ev (fun k => spec_l10Names.l0 k s acc (i : Int) (j : Int)) (l, decide (acc.length + (spl 47 (s.extract i s.size)).length ≤ 8) && (spl 47 (s.extract i s.size)).all nmOk) := by
  refine downTo s.size (fun j => ∀ (i : Nat) (acc : List ByteArray), i ≤ j → acc.length ≤ 8 → noB 47 (s.extract i j) →
    ∃ l, Ev (fun k => spec_l10Names.l0 k s acc (i : Int) (j : Int)) (l, decide (acc.length + (spl 47 (s.extract i s.size)).length ≤ 8) && (spl 47 (s.extract i s.size)).all nmOk)) ?_ ?_
  · intro i acc hij ha hn
    rw [spl_none hn]
    by_cases c : nmOk (s.extract i s.size) = true
    · by_cases c2 : acc.length = 8
      · refine ⟨acc, Ev.step ?_⟩
        have : decide (acc.length + [s.extract i s.size].length ≤ 8) = false := decide_eq_false (by rw [List.length_singleton]; omega)
        rw [this, Bool.false_and]
        simp only [spec_l10Names.l0]
        refine Ev.pos (Int.le_refl _) (Ev.pos trivial (Ev.step ?_))
        simp only [spec_l10Names.j1, Int.toNat_natCast]
        exact Ev.pos trivial (Ev.pos (by omega) (Ev.pos (by omega) (Ev.pos (by omega) (Ev.bind (sNm _) (Ev.pos c (Ev.pos (by omega) Ev.pure))))))
      · refine ⟨acc ++ [s.extract i s.size], Ev.step ?_⟩
        have : decide (acc.length + [s.extract i s.size].length ≤ 8) = true := decide_eq_true (by rw [List.length_singleton]; omega)
        rw [this, Bool.true_and]
        have e : [s.extract i s.size].all nmOk = true := by simp [c]
        rw [e]
        simp only [spec_l10Names.l0]
        refine Ev.pos (Int.le_refl _) (Ev.pos trivial (Ev.step ?_))
        simp only [spec_l10Names.j1, Int.toNat_natCast, upN s.size (by omega)]
        refine Ev.pos trivial (Ev.pos (by omega) (Ev.pos (by omega) (Ev.pos (by omega) (Ev.bind (sNm _) (Ev.pos c (Ev.neg (by omega) (Ev.pos (by omega) (Ev.step ?_))))))))
        simp only [spec_l10Names.l0]
        exact Ev.neg (by omega) Ev.pure
    · refine ⟨acc, Ev.step ?_⟩
      have e : [s.extract i s.size].all nmOk = false := by simp [c]
      rw [e, Bool.and_false]
      simp only [spec_l10Names.l0]
      refine Ev.pos (Int.le_refl _) (Ev.pos trivial (Ev.step ?_))
      simp only [spec_l10Names.j1, Int.toNat_natCast]
      exact Ev.pos trivial (Ev.pos (by omega) (Ev.pos (by omega) (Ev.pos (by omega) (Ev.bind (sNm _) (Ev.neg c Ev.pure)))))
  · intro j hj ih i acc hij ha hn
    by_cases e : bt s (j : Int) = 47
    · have hc := cutAt (s.extract i s.size) 47 (j - i) (by rw [ByteArray.size_extract]; omega) (by rw [bt_ex s i (j - i) (by omega), show i + (j - i) = j by omega]; exact e)
      have e1 : (s.extract i s.size).extract 0 (j - i) = s.extract i j := by
        apply ByteArray.ext
        apply Array.ext'
        rw [ex_data, ex_data, ex_data, List.drop_zero, List.take_take]
        congr 1
        omega
      have e2 : (s.extract i s.size).extract (j - i + 1) (s.extract i s.size).size = s.extract (j + 1) s.size := by
        apply ByteArray.ext
        apply Array.ext'
        rw [ex_data, ex_data, ex_data, List.drop_take, List.drop_drop, List.take_take, ByteArray.size_extract, show i + (j - i + 1) = j + 1 by omega]
        congr 1
        omega
      rw [e1, e2] at hc
      rw [hc, spl_cons hn, List.all_cons, List.length_cons]
      by_cases c : nmOk (s.extract i j) = true
      · by_cases c2 : acc.length = 8
        · refine ⟨acc, Ev.step ?_⟩
          have : decide (acc.length + ((spl 47 (s.extract (j + 1) s.size)).length + 1) ≤ 8) = false := decide_eq_false (by omega)
          rw [this, Bool.false_and]
          simp only [spec_l10Names.l0]
          refine Ev.pos (by omega) (Ev.neg (by omega) (Ev.pos (by omega) (Ev.pos (by omega) (Ev.step ?_))))
          simp only [spec_l10Names.j1, Int.toNat_natCast]
          exact Ev.pos (by rw [e]; rfl) (Ev.pos (by omega) (Ev.pos (by omega) (Ev.pos (by omega) (Ev.bind (sNm _) (Ev.pos c (Ev.pos (by omega) Ev.pure))))))
        · obtain ⟨l, h⟩ := ih (j + 1) (acc ++ [s.extract i j]) (Nat.le_refl _) (by rw [List.length_append, List.length_singleton]; omega) (by unfold noB; rw [ex_data]; simp)
          refine ⟨l, Ev.step ?_⟩
          rw [List.length_append, List.length_singleton] at h
          rw [c, Bool.true_and, show acc.length + ((spl 47 (s.extract (j + 1) s.size)).length + 1) = acc.length + 1 + (spl 47 (s.extract (j + 1) s.size)).length by omega]
          simp only [spec_l10Names.l0]
          refine Ev.pos (by omega) (Ev.neg (by omega) (Ev.pos (by omega) (Ev.pos (by omega) (Ev.step ?_))))
          simp only [spec_l10Names.j1, Int.toNat_natCast, upN j (by omega)]
          exact Ev.pos (by rw [e]; rfl) (Ev.pos (by omega) (Ev.pos (by omega) (Ev.pos (by omega) (Ev.bind (sNm _) (Ev.pos c (Ev.neg (by omega) (Ev.pos (by omega) h)))))))
      · refine ⟨acc, Ev.step ?_⟩
        rw [Bool.eq_false_iff.mpr c, Bool.false_and, Bool.and_false]
        simp only [spec_l10Names.l0]
        refine Ev.pos (by omega) (Ev.neg (by omega) (Ev.pos (by omega) (Ev.pos (by omega) (Ev.step ?_))))
        simp only [spec_l10Names.j1, Int.toNat_natCast]
        exact Ev.pos (by rw [e]; rfl) (Ev.pos (by omega) (Ev.pos (by omega) (Ev.pos (by omega) (Ev.bind (sNm _) (Ev.neg c Ev.pure)))))
    · obtain ⟨ch, hch, hsub⟩ := spl_next s i j hij hj
      obtain ⟨l, h⟩ := ih i acc (by omega) ha (by
        unfold noB at hn ⊢
        rw [hsub]
        intro hm
        rcases List.mem_append.1 hm with hm | hm
        · exact hn hm
        · rw [← List.mem_singleton.1 hm] at hch
          exact e hch.symm)
      refine ⟨l, Ev.step ?_⟩
      simp only [spec_l10Names.l0]
      refine Ev.pos (by omega) (Ev.neg (by omega) (Ev.pos (by omega) (Ev.pos (by omega) (Ev.step ?_))))
      simp only [spec_l10Names.j1, upN j (by omega)]
      exact Ev.neg (by simpa using e) h
theorem l10Names_ev (s : ByteArray) (hs : s.size ≤ 1048576) : ∃ l, Ev (fun k => spec_l10Names.f k s) (l, pk s) := by
  obtain ⟨l, h⟩ := l10Names_run s hs 0 (by omega) 0 [] (by omega) (by simp) (by unfold noB; rw [ex_data]; simp)
  have e : s.extract 0 s.size = s := ByteArray.extract_zero_size
  rw [e, List.length_nil, Nat.zero_add] at h
  exact ⟨l, h⟩

-- Order
theorem bl_nil_cons (y : UInt8) (b : List UInt8) : Op.bytesLess [] (y :: b) = true := by simp [Op.bytesLess]
theorem bl_nil (a : List UInt8) : Op.bytesLess a [] = false := by cases a <;> simp [Op.bytesLess]
theorem bl_cons (x y : UInt8) (a b : List UInt8) : Op.bytesLess (x :: a) (y :: b) = (decide (x < y) || (x == y && Op.bytesLess a b)) := rfl
theorem bl_cons_iff (x y : UInt8) (a b : List UInt8) : Op.bytesLess (x :: a) (y :: b) = true ↔ x.toNat < y.toNat ∨ (x = y ∧ Op.bytesLess a b = true) := by
  rw [bl_cons, Bool.or_eq_true, Bool.and_eq_true, decide_eq_true_eq, beq_iff_eq, UInt8.lt_iff_toNat_lt]
theorem bl_irr : ∀ a : List UInt8, Op.bytesLess a a = false
  | [] => by simp [Op.bytesLess]
  | x :: a => by
    rw [Bool.eq_false_iff]
    intro h
    rcases (bl_cons_iff x x a a).1 h with h | h
    · omega
    · rw [bl_irr a] at h; exact absurd h.2 (by simp)
theorem bl_trans : ∀ a b c : List UInt8, Op.bytesLess a b = true → Op.bytesLess b c = true → Op.bytesLess a c = true
  | _, _, [], _, h => by rw [bl_nil] at h; cases h
  | _, [], _ :: _, h, _ => by rw [bl_nil] at h; cases h
  | [], _ :: _, z :: c, _, _ => bl_nil_cons z c
  | x :: a, y :: b, z :: c, h1, h2 => by
    rw [bl_cons_iff] at h1 h2 ⊢
    rcases h1 with h1 | ⟨rfl, h1⟩
    · rcases h2 with h2 | ⟨rfl, h2⟩
      · exact Or.inl (by omega)
      · exact Or.inl h1
    · rcases h2 with h2 | ⟨rfl, h2⟩
      · exact Or.inl h2
      · exact Or.inr ⟨rfl, bl_trans a b c h1 h2⟩
theorem bl_tot : ∀ a b : List UInt8, Op.bytesLess a b = false → Op.bytesLess b a = false → a = b
  | [], [], _, _ => rfl
  | [], y :: b, h, _ => by rw [bl_nil_cons] at h; cases h
  | x :: a, [], _, h => by rw [bl_nil_cons] at h; cases h
  | x :: a, y :: b, h1, h2 => by
    have e1 : ¬ (x.toNat < y.toNat ∨ (x = y ∧ Op.bytesLess a b = true)) := by rw [← bl_cons_iff, h1]; simp
    have e2 : ¬ (y.toNat < x.toNat ∨ (y = x ∧ Op.bytesLess b a = true)) := by rw [← bl_cons_iff, h2]; simp
    have e : x = y := UInt8.toNat.inj (by omega)
    subst e
    have e3 : Op.bytesLess a b = false := by
      rw [Bool.eq_false_iff]; intro h; exact e1 (Or.inr ⟨rfl, h⟩)
    have e4 : Op.bytesLess b a = false := by
      rw [Bool.eq_false_iff]; intro h; exact e2 (Or.inr ⟨rfl, h⟩)
    rw [bl_tot a b e3 e4]
theorem bl_pre : ∀ (p q : List UInt8), q ≠ [] → Op.bytesLess p (p ++ q) = true
  | [], [], h => absurd rfl h
  | [], y :: q, _ => bl_nil_cons y q
  | x :: p, q, h => by
    show Op.bytesLess (x :: p) (x :: (p ++ q)) = true
    rw [bl_cons_iff]
    exact Or.inr ⟨rfl, bl_pre p q h⟩

-- FindE
def en (l : List S79) (i : Nat) : S79 := l.getD i z79
def nm (l : List S79) (i : Nat) : List UInt8 := (en l i).f0.toList
theorem rdE (l : List S79) (i : Nat) : rd_T79 l (i : Int) = en l i := rfl
theorem en_take (l : List S79) (n i : Nat) (h : i < n) : en (l.take n) i = en l i := by
  unfold en
  rw [List.getD_eq_getElem?_getD, List.getD_eq_getElem?_getD, List.getElem?_take_of_lt h]
def srt (l : List S79) (n : Nat) : Prop := ∀ a b, a < b → b < n → Op.bytesLess (nm l a) (nm l b) = true
/-- What a search in a sorted row comes to. -/
def Found (l : List S79) (s : ByteArray) (r : Int) : Prop := (∃ i, i < l.length ∧ nm l i = s.toList ∧ r = (i : Int)) ∨ ((∀ i, i < l.length → nm l i ≠ s.toList) ∧ r = -1)
theorem find_run (l : List S79) (s : ByteArray) (hl : l.length ≤ 1048576) (hs : srt l l.length) : ∀ d lo hi : Nat, hi - lo ≤ d → lo ≤ hi → hi ≤ l.length → (∀ j, j < lo → Op.bytesLess (nm l j) s.toList = true) → (∀ j, hi ≤ j → j < l.length → Op.bytesLess (nm l j) s.toList = false) →
    ∃ r, Ev (fun k => spec_l10Find.l0 k l s (lo : Int) (hi : Int)) r ∧ Found l s r := by
  intro d
  induction d with
  | zero =>
    intro lo hi hd hlh hh h1 h2
    obtain rfl : lo = hi := by omega
    have out : ∀ i, i < l.length → nm l i = s.toList → i = lo ∧ lo < l.length := by
      intro i hi he
      rcases Nat.lt_trichotomy i lo with h | h | h
      · have := h1 i h
        rw [he, bl_irr] at this
        cases this
      · exact ⟨h, by omega⟩
      · exfalso
        have e1 := hs lo i h hi
        rw [he] at e1
        rw [h2 lo (Nat.le_refl _) (by omega)] at e1
        cases e1
    by_cases c : lo < l.length
    · by_cases c2 : (en l lo).f0.toList = s.toList
      · refine ⟨(lo : Int), Ev.step ?_, Or.inl ⟨lo, c, c2, rfl⟩⟩
        simp only [spec_l10Find.l0, rdE]
        exact Ev.neg (by omega) (Ev.pos (by omega) (Ev.pos (by omega) (Ev.pos c2 Ev.pure)))
      · refine ⟨-1, Ev.step ?_, Or.inr ⟨?_, rfl⟩⟩
        · simp only [spec_l10Find.l0, rdE]
          exact Ev.neg (by omega) (Ev.pos (by omega) (Ev.pos (by omega) (Ev.neg c2 Ev.pure)))
        · intro i hi he
          obtain ⟨rfl, _⟩ := out i hi he
          exact c2 he
    · refine ⟨-1, Ev.step ?_, Or.inr ⟨?_, rfl⟩⟩
      · simp only [spec_l10Find.l0]
        exact Ev.neg (by omega) (Ev.neg (by omega) Ev.pure)
      · intro i hi he
        exact c (out i hi he).2
  | succ d ih =>
    intro lo hi hd hlh hh h1 h2
    by_cases c : lo = hi
    · exact ih lo hi (by omega) hlh hh h1 h2
    · have hm : wrap64 (Int.tdiv (wrap64 ((lo : Int) + (hi : Int))) 2) = (((lo + hi) / 2 : Nat) : Int) := by
        rw [w64 ((lo : Int) + hi) (by omega) (by omega), Int.tdiv_eq_ediv_of_nonneg (by omega), w64 _ (by omega) (by omega)]
        omega
      obtain ⟨m, hmd⟩ : ∃ m, m = (lo + hi) / 2 := ⟨_, rfl⟩
      rw [← hmd] at hm
      have hml : m < l.length := by omega
      by_cases c2 : Op.bytesLess (en l m).f0.toList s.toList = true
      · obtain ⟨r, hr, hf⟩ := ih (m + 1) hi (by omega) (by omega) hh (by
          intro j hj
          rcases Nat.lt_or_eq_of_le (Nat.le_of_lt_succ hj) with h | rfl
          · exact bl_trans _ _ _ (hs j m h hml) c2
          · exact c2) h2
        refine ⟨r, Ev.step ?_, hf⟩
        simp only [spec_l10Find.l0, hm, rdE, upN m (by omega)]
        exact Ev.pos (by omega) (Ev.pos (by omega) (Ev.pos (by omega) (Ev.pos c2 hr)))
      · obtain ⟨r, hr, hf⟩ := ih lo m (by omega) (by omega) (by omega) h1 (by
          intro j hj hjl
          rw [Bool.eq_false_iff]
          intro h
          rcases Nat.lt_or_eq_of_le hj with h3 | rfl
          · exact c2 (bl_trans _ _ _ (hs m j h3 hjl) h)
          · exact c2 h)
        refine ⟨r, Ev.step ?_, hf⟩
        simp only [spec_l10Find.l0, hm, rdE]
        exact Ev.pos (by omega) (Ev.pos (by omega) (Ev.pos (by omega) (Ev.neg c2 hr)))
theorem find_ev (l : List S79) (s : ByteArray) (hl : l.length ≤ 1048576) (hs : srt l l.length) : ∃ r, Ev (fun k => spec_l10Find.f k l s) r ∧ Found l s r :=
  find_run l s hl hs l.length 0 l.length (by omega) (by omega) (Nat.le_refl _) (fun j hj => absurd hj (by omega)) (fun j h1 h2 => absurd h1 (by omega))

-- TreeLaw
/-- The place of the last '/' ahead of j. -/
def upO (s : ByteArray) : Nat → Option Nat
  | 0 => none
  | j + 1 => if bt s (j : Int) = 47 then some j else upO s j
def upT (s : ByteArray) : Option Nat → ByteArray
  | none => ⟨#[]⟩
  | some i => s.extract 0 i
def upI : Option Nat → Int
  | none => -1
  | some i => (i : Int)
theorem upO_at (s : ByteArray) : ∀ j i, upO s j = some i → i < j ∧ bt s (i : Int) = 47
  | 0, _, h => by cases h
  | j + 1, i, h => by
    unfold upO at h
    by_cases c : bt s (j : Int) = 47
    · rw [if_pos c] at h
      cases h
      exact ⟨by omega, c⟩
    · rw [if_neg c] at h
      have := upO_at s j i h
      exact ⟨by omega, this.2⟩
theorem up_run (s : ByteArray) (hs : s.size ≤ 1048576) : ∀ j, j ≤ s.size → Ev (fun k => spec_l10Up.l0 k s ((j : Int) - 1)) (upT s (upO s j)) ∧ Ev (fun k => bytealg_LastIndexByteString.l0 k s 47 ((j : Int) - 1)) (upI (upO s j)) := by
  intro j
  induction j with
  | zero =>
    intro _
    constructor
    · refine Ev.step ?_
      simp only [spec_l10Up.l0]
      exact Ev.neg (by omega) Ev.pure
    · refine Ev.step ?_
      simp only [bytealg_LastIndexByteString.l0]
      exact Ev.neg (by omega) Ev.pure
  | succ j ih =>
    intro hj
    obtain ⟨h1, h2⟩ := ih (by omega)
    have e : ((j + 1 : Nat) : Int) - 1 = (j : Int) := by omega
    have w : wrap64 ((j : Int) - 1) = (j : Int) - 1 := w64 _ (by omega) (by omega)
    rw [e]
    unfold upO
    by_cases c : bt s (j : Int) = 47
    · rw [if_pos c]
      constructor
      · refine Ev.step ?_
        simp only [spec_l10Up.l0, Int.toNat_natCast]
        exact Ev.pos (by omega) (Ev.pos (by omega) (Ev.pos (by omega) (Ev.pos c (Ev.pos (by omega) Ev.pure))))
      · refine Ev.step ?_
        simp only [bytealg_LastIndexByteString.l0]
        exact Ev.pos (by omega) (Ev.pos (by omega) (Ev.pos (by omega) (Ev.pos c Ev.pure)))
    · rw [if_neg c]
      constructor
      · refine Ev.step ?_
        simp only [spec_l10Up.l0, w]
        exact Ev.pos (by omega) (Ev.pos (by omega) (Ev.pos (by omega) (Ev.neg c h1)))
      · refine Ev.step ?_
        simp only [bytealg_LastIndexByteString.l0, w]
        exact Ev.pos (by omega) (Ev.pos (by omega) (Ev.pos (by omega) (Ev.neg c h2)))
/-- The directory that holds a path, as both read it. -/
theorem up_ev (s : ByteArray) (hs : s.size ≤ 1048576) : Ev (fun k => spec_l10Up.f k s) (upT s (upO s s.size)) ∧ Ev (fun k => impl_upper.f k s) (upT s (upO s s.size), (upO s s.size).isSome) := by
  obtain ⟨h1, h2⟩ := up_run s hs s.size (Nat.le_refl _)
  have w : wrap64 ((s.size : Int) - 1) = (s.size : Int) - 1 := w64 _ (by omega) (by omega)
  have at_ := upO_at s s.size
  constructor
  · unfold spec_l10Up.f
    rw [w]
    exact h1
  · unfold impl_upper.f strings_LastIndexByte.f bytealg_LastIndexByteString.f
    rw [w]
    refine Ev.bind (Ev.bind h2 Ev.pure) ?_
    cases ho : upO s s.size with
    | none => exact Ev.pos (by show (-1 : Int) < 0; omega) Ev.pure
    | some i =>
      have := (at_ i ho).1
      simp only [upI, Int.toNat_natCast]
      exact Ev.neg (by omega) (Ev.pos (by omega) (Ev.pos (by omega) Ev.pure))
theorem up_less (s : ByteArray) (i : Nat) (h : upO s s.size = some i) : Op.bytesLess (s.extract 0 i).toList s.toList = true := by
  have hi := (upO_at s s.size i h).1
  rw [Lib.toList_data, Lib.toList_data, ex_data, List.drop_zero, Nat.sub_zero]
  have hl : s.data.toList.length = s.size := Array.length_toList
  have e : s.data.toList = s.data.toList.take i ++ s.data.toList.drop i := (List.take_append_drop _ _).symm
  have := bl_pre (s.data.toList.take i) (s.data.toList.drop i) (by
    intro h0
    have := congrArg List.length h0
    rw [List.length_drop, hl, List.length_nil] at this
    omega)
  rw [List.take_append_drop] at this
  exact this
theorem up_some (s : ByteArray) (hp : pk s = true) (i : Nat) (h : upO s s.size = some i) : (s.extract 0 i).toList ≠ [] := by
  obtain ⟨hi, hb⟩ := upO_at s s.size i h
  intro h0
  have hz : i = 0 := by
    have := congrArg List.length h0
    rw [Lib.toList_data, Array.length_toList] at this
    have e : (s.extract 0 i).data.size = (s.extract 0 i).size := rfl
    rw [e, ByteArray.size_extract, List.length_nil] at this
    omega
  subst hz
  have hc := cutAt s 47 0 hi hb
  have hn : noB 47 (s.extract 0 0) := by unfold noB; rw [ex_data]; simp
  unfold pk at hp
  rw [hc, spl_cons hn, List.all_cons, Bool.and_eq_true, Bool.and_eq_true] at hp
  have h1 := hp.2.1
  unfold nmOk at h1
  have e : (s.extract 0 0).size = 0 := by rw [ByteArray.size_extract]; omega
  rw [e] at h1
  simp at h1
theorem seen_iff (l : List ByteArray) (s : ByteArray) : seenW l s = true ↔ ∃ a ∈ l, a.toList = s.toList := by
  induction l with
  | nil => simp [seenW]
  | cons a r ih =>
    rw [seenW, Bool.or_eq_true, ih, decide_eq_true_eq, ← Lib.toList_data, ← Lib.toList_data]
    constructor
    · rintro (h | ⟨b, hb, h⟩)
      · exact ⟨a, List.mem_cons_self, h⟩
      · exact ⟨b, List.mem_cons_of_mem _ hb, h⟩
    · rintro ⟨b, hb, h⟩
      rcases List.mem_cons.1 hb with rfl | hb
      · exact Or.inl h
      · exact Or.inr ⟨b, hb, h⟩
theorem en_get (l : List S79) (i : Nat) (h : i < l.length) : en l i = l[i] := by unfold en; simp [List.getD_eq_getElem?_getD, List.getElem?_eq_getElem h]
theorem dirs_iff (l : List S79) (u : ByteArray) : seenW (dirsOf l) u = true ↔ ∃ a, a < l.length ∧ (en l a).f1 = 1 ∧ nm l a = u.toList := by
  rw [seen_iff]
  unfold dirsOf
  constructor
  · rintro ⟨x, hx, he⟩
    obtain ⟨e, hm, rfl⟩ := List.mem_map.1 hx
    obtain ⟨hm, h1⟩ := List.mem_filter.1 hm
    obtain ⟨i, hi, rfl⟩ := List.mem_iff_getElem.1 hm
    refine ⟨i, hi, ?_, ?_⟩
    · rw [en_get l i hi]; exact beq_iff_eq.1 h1
    · unfold nm; rw [en_get l i hi]; exact he
  · rintro ⟨a, ha, h1, h2⟩
    refine ⟨(l[a]).f0, List.mem_map.2 ⟨l[a], List.mem_filter.2 ⟨List.getElem_mem ha, ?_⟩, rfl⟩, ?_⟩
    · rw [en_get l a ha] at h1; exact beq_iff_eq.2 h1
    · unfold nm at h2; rw [en_get l a ha] at h2; exact h2
theorem dir_ev (l : List S79) (i : Nat) (u : ByteArray) (hl : l.length ≤ 1048576) (hi : i ≤ l.length) (hs : srt l i) : ∃ b : Bool, Ev (fun k => spec_l10Dir.f k (l.take i) u) b ∧ (b = true ↔ ∃ a, a < i ∧ (en l a).f1 = 1 ∧ nm l a = u.toList) := by
  have hlen : (l.take i).length = i := by rw [List.length_take]; omega
  have nt : ∀ a, a < i → nm (l.take i) a = nm l a := fun a ha => by unfold nm; rw [en_take l i a ha]
  obtain ⟨r, hr, hf⟩ := find_ev (l.take i) u (by omega) (by
    rw [hlen]
    intro a b hab hb
    rw [nt a (by omega), nt b hb]
    exact hs a b hab hb)
  unfold spec_l10Dir.f
  rcases hf with ⟨j, hj, he, rfl⟩ | ⟨hno, rfl⟩
  · rw [hlen] at hj
    refine ⟨_, Ev.bind hr (Ev.pos (by omega) (Ev.pos (by omega) (Ev.pos (by omega) Ev.pure))), ?_⟩
    rw [beq_iff_eq, rdE, en_take l i j hj]
    rw [nt j hj] at he
    constructor
    · exact fun h => ⟨j, hj, h, he⟩
    · rintro ⟨a, ha, h1, h2⟩
      rcases Nat.lt_trichotomy a j with h | rfl | h
      · have := hs a j h hj
        rw [he, h2, bl_irr] at this
        cases this
      · exact h1
      · have := hs j a h ha
        rw [he, h2, bl_irr] at this
        cases this
  · refine ⟨false, Ev.bind hr (Ev.neg (by omega) Ev.pure), ?_⟩
    constructor
    · intro h; cases h
    · rintro ⟨a, ha, _, h2⟩
      exact absurd (by rw [nt a ha]; exact h2) (hno a (by omega))
/-- What a kind asks. -/
def kd (e : S79) : Bool := (e.f1 == 1 && decide (e.f2.size = 0) && !e.f3) || (e.f1 == 2 && decide (e.f2.size ≤ 20000)) || (e.f1 == 3 && decide (1 ≤ e.f2.size) && decide (e.f2.size ≤ 20000) && !e.f3)
theorem nil_size (s : ByteArray) : s.toList = ([] : List UInt8) ↔ s.size = 0 := by
  rw [Lib.toList_data, ← List.length_eq_zero_iff, Array.length_toList]
  rfl
theorem entry_ev (e : S79) (h0 : e.f0.size ≤ 1048576) : Ev (fun k => spec_l10EntryOk.f k e.f0 e.f1 e.f2 e.f3) (pk e.f0 && kd e) := by
  obtain ⟨l, hn⟩ := l10Names_ev e.f0 h0
  unfold spec_l10EntryOk.f
  refine Ev.bind hn ?_
  cases hp : pk e.f0 with
  | false =>
    refine Ev.neg (by simp) (Ev.step ?_)
    simp only [spec_l10EntryOk.j0]
    exact Ev.pos trivial Ev.pure
  | true =>
    refine Ev.pos rfl (Ev.step ?_)
    simp only [spec_l10EntryOk.j0, nil_size]
    by_cases c : ((e.f2.size : Int) > 20000)
    · have : (true && kd e) = false := by
        unfold kd
        have a1 : decide (e.f2.size = 0) = false := decide_eq_false (by omega)
        have a2 : decide (e.f2.size ≤ 20000) = false := decide_eq_false (by omega)
        rw [a1, a2]
        simp
      rw [this]
      exact Ev.pos (decide_eq_true c) Ev.pure
    · have a2 : decide (e.f2.size ≤ 20000) = true := decide_eq_true (by omega)
      refine Ev.neg (by simpa using c) ?_
      unfold kd
      rw [a2]
      by_cases k1 : e.f1 = 1
      · by_cases z : e.f2.size = 0
        · have : (true && (e.f1 == 1 && decide (e.f2.size = 0) && !e.f3 || e.f1 == 2 && true || e.f1 == 3 && decide (1 ≤ e.f2.size) && true && !e.f3)) = !e.f3 := by simp [k1, z]
          rw [this]
          exact Ev.pos k1 (Ev.pos z Ev.pure)
        · have : (true && (e.f1 == 1 && decide (e.f2.size = 0) && !e.f3 || e.f1 == 2 && true || e.f1 == 3 && decide (1 ≤ e.f2.size) && true && !e.f3)) = false := by simp [k1, z]
          rw [this]
          exact Ev.pos k1 (Ev.neg z Ev.pure)
      by_cases k2 : e.f1 = 2
      · have : (true && (e.f1 == 1 && decide (e.f2.size = 0) && !e.f3 || e.f1 == 2 && true || e.f1 == 3 && decide (1 ≤ e.f2.size) && true && !e.f3)) = true := by simp [k2]
        rw [this]
        exact Ev.neg k1 (Ev.pos k2 Ev.pure)
      by_cases k3 : e.f1 = 3
      · by_cases z : e.f2.size = 0
        · have : (true && (e.f1 == 1 && decide (e.f2.size = 0) && !e.f3 || e.f1 == 2 && true || e.f1 == 3 && decide (1 ≤ e.f2.size) && true && !e.f3)) = false := by simp [k3, z]
          rw [this]
          exact Ev.neg k1 (Ev.neg k2 (Ev.pos k3 (Ev.pos z Ev.pure)))
        · have z1 : 1 ≤ e.f2.size := by omega
          have : (true && (e.f1 == 1 && decide (e.f2.size = 0) && !e.f3 || e.f1 == 2 && true || e.f1 == 3 && decide (1 ≤ e.f2.size) && true && !e.f3)) = !e.f3 := by simp [k3, z1]
          rw [this]
          exact Ev.neg k1 (Ev.neg k2 (Ev.pos k3 (Ev.neg z Ev.pure)))
      · have : (true && (e.f1 == 1 && decide (e.f2.size = 0) && !e.f3 || e.f1 == 2 && true || e.f1 == 3 && decide (1 ≤ e.f2.size) && true && !e.f3)) = false := by simp [k1, k2, k3]
        rw [this]
        exact Ev.neg k1 (Ev.neg k2 (Ev.neg k3 Ev.pure))

-- TreeRun
def good (l : List S79) (i : Nat) : Prop := pk (en l i).f0 = true ∧ kd (en l i) = true ∧ (0 < i → Op.bytesLess (nm l (i - 1)) (nm l i) = true)
theorem srt_of (l : List S79) : ∀ n, (∀ j, j < n → good l j) → srt l n := by
  intro n
  induction n with
  | zero => intro _ a b _ hb; omega
  | succ n ih =>
    intro h a b hab hb
    have h1 := ih (fun j hj => h j (by omega))
    by_cases c : b < n
    · exact h1 a b hab c
    · obtain rfl : b = n := by omega
      have h2 := (h b (by omega)).2.2 (by omega)
      by_cases d : a = b - 1
      · rw [d]; exact h2
      · exact bl_trans _ _ _ (h1 a (b - 1) (by omega) (by omega)) h2
def parS (l : List S79) (i : Nat) : Prop := ∀ q, upO (en l i).f0 (en l i).f0.size = some q → ∃ a, a < i ∧ (en l a).f1 = 1 ∧ nm l a = ((en l i).f0.extract 0 q).toList
def parI (l : List S79) (i : Nat) : Prop := ∀ q, upO (en l i).f0 (en l i).f0.size = some q → ∃ a, a < l.length ∧ (en l a).f1 = 1 ∧ nm l a = ((en l i).f0.extract 0 q).toList
theorem par_same (l : List S79) (hg : ∀ j, j < l.length → good l j) (i : Nat) (hi : i < l.length) : parS l i ↔ parI l i := by
  have hs := srt_of l l.length hg
  constructor
  · intro h q hq
    obtain ⟨a, h1, h2, h3⟩ := h q hq
    exact ⟨a, by omega, h2, h3⟩
  · intro h q hq
    obtain ⟨a, h1, h2, h3⟩ := h q hq
    refine ⟨a, ?_, h2, h3⟩
    have lt := up_less _ q hq
    rw [← h3] at lt
    rcases Nat.lt_trichotomy a i with c | rfl | c
    · exact c
    · have e : Op.bytesLess (nm l a) (nm l a) = true := lt
      rw [bl_irr] at e
      cases e
    · have e := bl_trans _ _ _ lt (hs i a c h1)
      rw [bl_irr] at e
      cases e
theorem all_next {P : Nat → Prop} {i n : Nat} (hi : i < n) : (∀ j, i ≤ j → j < n → P j) ↔ P i ∧ ∀ j, i + 1 ≤ j → j < n → P j := by
  constructor
  · intro h
    exact ⟨h i (Nat.le_refl _) hi, fun j h1 h2 => h j (by omega) h2⟩
  · rintro ⟨h0, h⟩ j h1 h2
    by_cases c : j = i
    · rw [c]; exact h0
    · exact h j (by omega) h2
theorem spec_run (l : List S79) (hl : l.length ≤ 500) (hz : ∀ i, i < l.length → (en l i).f0.size ≤ 1048576) : ∀ i, i ≤ l.length → (∀ j, j < i → good l j) → ∃ r : Bool, Ev (fun k => spec_TreeOk.l0 k l (i : Int)) r ∧ (r = true ↔ ∀ j, i ≤ j → j < l.length → good l j ∧ parS l j) := by
  refine downTo l.length (fun i => (∀ j, j < i → good l j) → ∃ r : Bool, Ev (fun k => spec_TreeOk.l0 k l (i : Int)) r ∧ (r = true ↔ ∀ j, i ≤ j → j < l.length → good l j ∧ parS l j)) ?_ ?_
  · intro _
    refine ⟨true, Ev.step ?_, by simp; omega⟩
    simp only [spec_TreeOk.l0]
    exact Ev.neg (by omega) Ev.pure
  · intro i hi ih hg
    have he := entry_ev (en l i) (hz i hi)
    rw [all_next hi]
    by_cases c : (pk (en l i).f0 && kd (en l i)) = true
    · rw [c] at he
      obtain ⟨c1, c2⟩ := Bool.and_eq_true _ _ ▸ c
      have wm1 : wrap64 ((i : Int) - 1) = (i : Int) - 1 := w64 _ (by omega) (by omega)
      have j1 : ∀ gi : good l i, ∃ r : Bool, Ev (fun k => spec_TreeOk.j1 k l (i : Int) false) r ∧ (r = true ↔ (good l i ∧ parS l i) ∧ ∀ j, i + 1 ≤ j → j < l.length → good l j ∧ parS l j) := by
        intro gi
        obtain ⟨r, hr, hr2⟩ := ih (by
          intro j hj
          by_cases e : j = i
          · rw [e]; exact gi
          · exact hg j (by omega))
        have hu := (up_ev (en l i).f0 (hz i hi)).1
        cases ho : upO (en l i).f0 (en l i).f0.size with
        | none =>
          rw [ho] at hu
          refine ⟨r, Ev.step ?_, ?_⟩
          · simp only [spec_TreeOk.j1, rdE, upN i (by omega)]
            exact Ev.neg (by simp) (Ev.pos (by omega) (Ev.pos (by omega) (Ev.bind hu (Ev.pos ((nil_size _).2 rfl) hr))))
          · rw [hr2]
            exact ⟨fun h => ⟨⟨gi, fun q hq => by rw [ho] at hq; cases hq⟩, h⟩, fun h => h.2⟩
        | some q =>
          rw [ho] at hu
          have hne := up_some _ c1 q ho
          obtain ⟨b, hb, hb2⟩ := dir_ev l i ((en l i).f0.extract 0 q) (by omega) (by omega) (srt_of l i hg)
          have hp : parS l i ↔ b = true := by
            rw [hb2]
            exact ⟨fun h => h q ho, fun h q2 hq2 => by rw [ho] at hq2; cases hq2; exact h⟩
          cases b with
          | true =>
            refine ⟨r, Ev.step ?_, ?_⟩
            · simp only [spec_TreeOk.j1, rdE, upN i (by omega), Int.toNat_natCast]
              exact Ev.neg (by simp) (Ev.pos (by omega) (Ev.pos (by omega) (Ev.bind hu (Ev.neg hne (Ev.pos (by omega) (Ev.bind hb (Ev.pos rfl hr)))))))
            · rw [hr2]
              exact ⟨fun h => ⟨⟨gi, hp.2 rfl⟩, h⟩, fun h => h.2⟩
          | false =>
            refine ⟨false, Ev.step ?_, ?_⟩
            · simp only [spec_TreeOk.j1, rdE, upN i (by omega), Int.toNat_natCast]
              exact Ev.neg (by simp) (Ev.pos (by omega) (Ev.pos (by omega) (Ev.bind hu (Ev.neg hne (Ev.pos (by omega) (Ev.bind hb (Ev.neg (by simp) Ev.pure)))))))
            · exact ⟨fun h => (by cases h), fun h => hp.1 h.1.2⟩
      by_cases i0 : i = 0
      · obtain ⟨r, hr, hr2⟩ := j1 ⟨c1, c2, fun h => absurd i0 (by omega)⟩
        refine ⟨r, Ev.step ?_, hr2⟩
        simp only [spec_TreeOk.l0, rdE]
        exact Ev.pos (by omega) (Ev.pos (by omega) (Ev.bind he (Ev.pos rfl (Ev.neg (by omega) hr))))
      · have rde : rd_T79 l ((i : Int) - 1) = en l (i - 1) := by rw [show (i : Int) - 1 = ((i - 1 : Nat) : Int) by omega]; rfl
        by_cases b : Op.bytesLess (en l (i - 1)).f0.toList (en l i).f0.toList = true
        · obtain ⟨r, hr, hr2⟩ := j1 ⟨c1, c2, fun _ => b⟩
          refine ⟨r, Ev.step ?_, hr2⟩
          simp only [spec_TreeOk.l0, wm1, rde, rdE]
          rw [b]
          exact Ev.pos (by omega) (Ev.pos (by omega) (Ev.bind he (Ev.pos rfl (Ev.pos (by omega) (Ev.pos (by omega) (Ev.pos (by omega) hr))))))
        · refine ⟨false, Ev.step ?_, ⟨fun h => (by cases h), fun h => absurd (h.1.1.2.2 (by omega)) b⟩⟩
          simp only [spec_TreeOk.l0, wm1, rde, rdE]
          rw [Bool.eq_false_iff.mpr b]
          refine Ev.pos (by omega) (Ev.pos (by omega) (Ev.bind he (Ev.pos rfl (Ev.pos (by omega) (Ev.pos (by omega) (Ev.pos (by omega) (Ev.step ?_)))))))
          simp only [spec_TreeOk.j1]
          exact Ev.pos (by simp) Ev.pure
    · rw [Bool.eq_false_iff.mpr c] at he
      refine ⟨false, Ev.step ?_, ⟨fun h => (by cases h), fun h => absurd (by rw [h.1.1.1, h.1.1.2.1]; rfl) c⟩⟩
      simp only [spec_TreeOk.l0, rdE]
      refine Ev.pos (by omega) (Ev.pos (by omega) (Ev.bind he (Ev.neg (by simp) (Ev.step ?_))))
      simp only [spec_TreeOk.j1]
      exact Ev.pos trivial Ev.pure
theorem impl_run1 (l : List S79) (hl : l.length ≤ 500) (hz : ∀ i, i < l.length → (en l i).f0.size ≤ 1048576) : ∃ r : Bool, Ev (fun k => impl_TreeOk.l1 k l (l.length : Int) 0) r ∧ (r = true ↔ ∀ j, 0 ≤ j → j < l.length → parI l j) := by
  refine downTo l.length (fun i => ∃ r : Bool, Ev (fun k => impl_TreeOk.l1 k l (l.length : Int) (i : Int)) r ∧ (r = true ↔ ∀ j, i ≤ j → j < l.length → parI l j)) ?_ ?_ 0 (by omega)
  · refine ⟨true, Ev.step ?_, by simp; omega⟩
    simp only [impl_TreeOk.l1]
    exact Ev.neg (by omega) Ev.pure
  · intro i hi ⟨r, hr, hr2⟩
    rw [all_next hi]
    have hu := (up_ev (en l i).f0 (hz i hi)).2
    cases ho : upO (en l i).f0 (en l i).f0.size with
    | none =>
      rw [ho] at hu
      refine ⟨r, Ev.step ?_, ?_⟩
      · simp only [impl_TreeOk.l1, rdE, upN i (by omega)]
        exact Ev.pos (by omega) (Ev.pos (by omega) (Ev.pos (by omega) (Ev.bind hu (Ev.neg (by simp) hr))))
      · rw [hr2]
        exact ⟨fun h => ⟨fun q hq => (by rw [ho] at hq; cases hq), h⟩, fun h => h.2⟩
    | some q =>
      rw [ho] at hu
      have hp : parI l i ↔ seenW (dirsOf l) ((en l i).f0.extract 0 q) = true := by
        rw [dirs_iff]
        exact ⟨fun h => h q ho, fun h q2 hq2 => by rw [ho] at hq2; cases hq2; exact h⟩
      by_cases b : seenW (dirsOf l) ((en l i).f0.extract 0 q) = true
      · have hf : seenF l (upT (en l i).f0 (some q)) = some 1 := by unfold seenF upT; rw [if_pos b]
        refine ⟨r, Ev.step ?_, ?_⟩
        · simp only [impl_TreeOk.l1, rdE, upN i (by omega)]
          exact Ev.pos (by omega) (Ev.pos (by omega) (Ev.pos (by omega) (Ev.bind hu (Ev.pos rfl (Ev.cons hf (Ev.neg (by omega) hr))))))
        · rw [hr2]
          exact ⟨fun h => ⟨hp.2 b, h⟩, fun h => h.2⟩
      · have hf : seenF l (upT (en l i).f0 (some q)) = some 0 := by unfold seenF upT; rw [if_neg b]
        refine ⟨false, Ev.step ?_, ⟨fun h => (by cases h), fun h => absurd (hp.1 h.1) b⟩⟩
        simp only [impl_TreeOk.l1, rdE, upN i (by omega)]
        exact Ev.pos (by omega) (Ev.pos (by omega) (Ev.pos (by omega) (Ev.bind hu (Ev.pos rfl (Ev.cons hf (Ev.pos rfl Ev.pure))))))

-- TreeRun2
/-- What the program's switch comes to, once the flag is down. -/
theorem impl_kind (l : List S79) (hl : l.length ≤ 500) (i : Nat) (hi : i < l.length) (hfl : (en l i).f3 = true → (en l i).f1 = 2) (r : Bool) (hr : Ev (fun k => impl_TreeOk.l0 k l l (l.length : Int) ((i + 1 : Nat) : Int)) r) :
    Ev (fun k => impl_TreeOk.j1 k l l (l.length : Int) (i : Int) false (en l i).f0 (en l i).f1 (en l i).f2 (en l i).f3) (kd (en l i) && r) := by
  have h3 : ∀ e : S79, (e.f3 = true → e.f1 = 2) → kd e = (if e.f1 = 1 then decide (e.f2.size = 0) else if e.f1 = 2 then decide (e.f2.size ≤ 20000) else if e.f1 = 3 then (decide (1 ≤ e.f2.size) && decide (e.f2.size ≤ 20000)) else false) := by
    intro e h
    unfold kd
    by_cases k1 : e.f1 = 1
    · have : e.f3 = false := by
        rw [Bool.eq_false_iff]; intro h2; have := h h2; omega
      simp [k1, this]
    by_cases k2 : e.f1 = 2
    · simp [k2]
    by_cases k3 : e.f1 = 3
    · have : e.f3 = false := by
        rw [Bool.eq_false_iff]; intro h2; have := h h2; omega
      simp [k3, this]
    · simp [k1, k2, k3]
  rw [h3 _ hfl]
  refine Ev.step ?_
  simp only [impl_TreeOk.j1, nil_size, upN i (by omega)]
  refine Ev.neg (by simp) ?_
  by_cases k1 : (en l i).f1 = 1
  · rw [if_pos k1]
    refine Ev.pos k1 ?_
    by_cases z : (en l i).f2.size = 0
    · rw [decide_eq_true z, Bool.true_and]
      exact Ev.pos z hr
    · rw [decide_eq_false z, Bool.false_and]
      exact Ev.neg z Ev.pure
  rw [if_neg k1]
  refine Ev.neg k1 ?_
  by_cases k2 : (en l i).f1 = 2
  · rw [if_pos k2]
    refine Ev.pos k2 ?_
    by_cases z : (en l i).f2.size ≤ 20000
    · rw [decide_eq_true z, Bool.true_and]
      exact Ev.neg (by omega) hr
    · rw [decide_eq_false z, Bool.false_and]
      exact Ev.pos (by omega) Ev.pure
  rw [if_neg k2]
  refine Ev.neg k2 ?_
  by_cases k3 : (en l i).f1 = 3
  · rw [if_pos k3]
    refine Ev.pos k3 ?_
    by_cases y : 1 ≤ (en l i).f2.size
    · rw [decide_eq_true y, Bool.true_and]
      refine Ev.neg (by omega) ?_
      by_cases z : (en l i).f2.size ≤ 20000
      · rw [decide_eq_true z, Bool.true_and]
        exact Ev.neg (by omega) hr
      · rw [decide_eq_false z, Bool.false_and]
        exact Ev.pos (by omega) Ev.pure
    · rw [decide_eq_false y, Bool.false_and, Bool.false_and]
      exact Ev.pos (by omega) Ev.pure
  · rw [if_neg k3, Bool.false_and]
    exact Ev.neg k3 Ev.pure
theorem impl_run (l : List S79) (hl : l.length ≤ 500) (hz : ∀ i, i < l.length → (en l i).f0.size ≤ 1048576) : ∃ r : Bool, Ev (fun k => impl_TreeOk.l0 k l l (l.length : Int) 0) r ∧ (r = true ↔ (∀ j, 0 ≤ j → j < l.length → good l j) ∧ ∀ j, 0 ≤ j → j < l.length → parI l j) := by
  refine downTo l.length (fun i => ∃ r : Bool, Ev (fun k => impl_TreeOk.l0 k l l (l.length : Int) (i : Int)) r ∧ (r = true ↔ (∀ j, i ≤ j → j < l.length → good l j) ∧ ∀ j, 0 ≤ j → j < l.length → parI l j)) ?_ ?_ 0 (by omega)
  · obtain ⟨r, hr, hr2⟩ := impl_run1 l hl hz
    refine ⟨r, Ev.step ?_, ?_⟩
    · simp only [impl_TreeOk.l0]
      exact Ev.neg (by omega) hr
    · rw [hr2]
      exact ⟨fun h => ⟨fun j h1 h2 => absurd h1 (by omega), h⟩, fun h => h.2⟩
  · intro i hi ⟨r, hr, hr2⟩
    rw [all_next hi]
    have hp := impl_pathOk_ev (en l i).f0 (hz i hi)
    have wm1 : wrap64 ((i : Int) - 1) = (i : Int) - 1 := w64 _ (by omega) (by omega)
    have yes : ∀ m : Bool, m = true → Ev (fun k => impl_TreeOk.j1 k l l (l.length : Int) (i : Int) m (en l i).f0 (en l i).f1 (en l i).f2 (en l i).f3) false := by
      rintro _ rfl
      refine Ev.step ?_
      simp only [impl_TreeOk.j1]
      exact Ev.pos trivial Ev.pure
    by_cases c1 : pk (en l i).f0 = true
    · rw [c1] at hp
      by_cases fl : (en l i).f3 = true ∧ (en l i).f1 ≠ 2
      · have nk : ¬ good l i := by
          rintro ⟨_, h, _⟩
          unfold kd at h
          rw [fl.1] at h
          have : ((en l i).f1 == 2) = false := by simpa using fl.2
          rw [this] at h
          simp at h
        have hm : ((en l i).f1 != 2) = true := by simpa using fl.2
        have tail : ∀ f g : Nat → Option Bool, Ev f false → Ev (fun k => if (en l i).f3 = true then f k else g k) false := fun f g hf => Ev.pos fl.1 hf
        refine ⟨false, Ev.step ?_, ⟨fun h => (by cases h), fun h => absurd h.1.1 nk⟩⟩
        simp only [impl_TreeOk.l0, wm1, rdE]
        refine Ev.pos (by omega) (Ev.pos (by omega) (Ev.pos (by omega) (Ev.bind hp (Ev.pos rfl ?_))))
        by_cases i0 : i = 0
        · exact Ev.neg (by omega) (tail _ _ (yes _ hm))
        · have rde : rd_T79 l ((i : Int) - 1) = en l (i - 1) := by rw [show (i : Int) - 1 = ((i - 1 : Nat) : Int) by omega]; rfl
          rw [rde]
          refine Ev.pos (by omega) (Ev.pos (by omega) (Ev.pos (by omega) ?_))
          by_cases b : Op.bytesLess (en l (i - 1)).f0.toList (en l i).f0.toList = true
          · exact Ev.pos b (tail _ _ (yes _ hm))
          · exact Ev.neg b (yes _ rfl)
      · have hfl : (en l i).f3 = true → (en l i).f1 = 2 := fun h => Classical.byContradiction fun h2 => fl ⟨h, h2⟩
        have hk := impl_kind l hl i hi hfl r hr
        have tail : Ev (fun k => if (en l i).f3 = true then impl_TreeOk.j1 k l l (l.length : Int) (i : Int) ((en l i).f1 != 2) (en l i).f0 (en l i).f1 (en l i).f2 (en l i).f3 else impl_TreeOk.j1 k l l (l.length : Int) (i : Int) false (en l i).f0 (en l i).f1 (en l i).f2 (en l i).f3) (kd (en l i) && r) := by
          by_cases f3 : (en l i).f3 = true
          · have : ((en l i).f1 != 2) = false := by simpa using hfl f3
            rw [this]
            exact Ev.pos f3 hk
          · exact Ev.neg f3 hk
        have done (gl : 0 < i → Op.bytesLess (nm l (i - 1)) (nm l i) = true) : ((kd (en l i) && r) = true ↔ (good l i ∧ ∀ j, i + 1 ≤ j → j < l.length → good l j) ∧ ∀ j, 0 ≤ j → j < l.length → parI l j) := by
          rw [Bool.and_eq_true, hr2]
          constructor
          · rintro ⟨h1, h2, h3⟩
            exact ⟨⟨⟨c1, h1, gl⟩, h2⟩, h3⟩
          · rintro ⟨⟨⟨_, h1, _⟩, h2⟩, h3⟩
            exact ⟨h1, h2, h3⟩
        by_cases i0 : i = 0
        · refine ⟨_, Ev.step ?_, done (fun h => absurd i0 (by omega))⟩
          simp only [impl_TreeOk.l0, rdE]
          exact Ev.pos (by omega) (Ev.pos (by omega) (Ev.pos (by omega) (Ev.bind hp (Ev.pos rfl (Ev.neg (by omega) tail)))))
        · have rde : rd_T79 l ((i : Int) - 1) = en l (i - 1) := by rw [show (i : Int) - 1 = ((i - 1 : Nat) : Int) by omega]; rfl
          by_cases b : Op.bytesLess (en l (i - 1)).f0.toList (en l i).f0.toList = true
          · refine ⟨_, Ev.step ?_, done (fun _ => b)⟩
            simp only [impl_TreeOk.l0, wm1, rde, rdE]
            exact Ev.pos (by omega) (Ev.pos (by omega) (Ev.pos (by omega) (Ev.bind hp (Ev.pos rfl (Ev.pos (by omega) (Ev.pos (by omega) (Ev.pos (by omega) (Ev.pos b tail))))))))
          · refine ⟨false, Ev.step ?_, ⟨fun h => (by cases h), fun h => absurd (h.1.1.2.2 (by omega)) b⟩⟩
            simp only [impl_TreeOk.l0, wm1, rde, rdE]
            exact Ev.pos (by omega) (Ev.pos (by omega) (Ev.pos (by omega) (Ev.bind hp (Ev.pos rfl (Ev.pos (by omega) (Ev.pos (by omega) (Ev.pos (by omega) (Ev.neg b (yes _ rfl)))))))))
    · rw [Bool.eq_false_iff.mpr c1] at hp
      refine ⟨false, Ev.step ?_, ⟨fun h => (by cases h), fun h => absurd h.1.1.1 c1⟩⟩
      simp only [impl_TreeOk.l0, rdE]
      exact Ev.pos (by omega) (Ev.pos (by omega) (Ev.pos (by omega) (Ev.bind hp (Ev.neg (by simp) (yes _ rfl)))))
/-- Both tell a tree alike. -/
theorem tree_ev (l : List S79) (hl : l.length ≤ 1048576) (hz : ∀ e ∈ l, e.f0.size ≤ 1048576) : ∃ r : Bool, Ev (fun k => spec_TreeOk.f k l) r ∧ Ev (fun k => impl_TreeOk.f k l) r ∧ (r = true → l.length ≤ 500 ∧ srt l l.length) := by
  unfold spec_TreeOk.f impl_TreeOk.f
  by_cases c : (l.length : Int) > 500
  · exact ⟨false, Ev.pos c Ev.pure, Ev.pos c Ev.pure, by simp⟩
  have hz2 : ∀ i, i < l.length → (en l i).f0.size ≤ 1048576 := fun i hi => by rw [en_get l i hi]; exact hz _ (List.getElem_mem hi)
  have hall : (l.all fun e => decide (e.f0.size ≤ 9223372036854775807)) = true := by
    rw [List.all_eq_true]
    intro e he
    have := hz e he
    exact decide_eq_true (by omega)
  obtain ⟨r, hr, hr2⟩ := spec_run l (by omega) hz2 0 (by omega) (fun j hj => absurd hj (by omega))
  obtain ⟨s, hs, hs2⟩ := impl_run l (by omega) hz2
  have e : r = s := by
    rw [Bool.eq_iff_iff, hr2, hs2]
    constructor
    · intro h
      have hg : ∀ j, j < l.length → good l j := fun j hj => (h j (Nat.zero_le _) hj).1
      exact ⟨fun j _ hj => hg j hj, fun j _ hj => (par_same l hg j hj).1 (h j (Nat.zero_le _) hj).2⟩
    · rintro ⟨h1, h2⟩ j _ hj
      exact ⟨h1 j (Nat.zero_le _) hj, (par_same l (fun j hj => h1 j (Nat.zero_le _) hj) j hj).2 (h2 j (Nat.zero_le _) hj)⟩
  subst e
  refine ⟨r, Ev.neg c hr, Ev.neg c (Ev.pos hall hs), fun h => ⟨by omega, ?_⟩⟩
  exact srt_of l l.length (fun j hj => ((hr2.1 h) j (Nat.zero_le _) hj).1)

theorem idx_found (l : List S79) (s : ByteArray) : ∀ d i, l.length - i ≤ d → i ≤ l.length → (∀ j, j < i → nm l j ≠ s.toList) → Found l s (idxE (l.drop i) s i) := by
  intro d
  induction d with
  | zero =>
    intro i hd hi h
    obtain rfl : i = l.length := by omega
    rw [List.drop_length, idxE]
    exact Or.inr ⟨h, rfl⟩
  | succ d ih =>
    intro i hd hi h
    by_cases c : i < l.length
    · rw [idxE_at l i c s, rdE]
      by_cases e : (en l i).f0.toList = s.toList
      · rw [if_pos e]
        exact Or.inl ⟨i, c, e, rfl⟩
      · rw [if_neg e]
        refine ih (i + 1) (by omega) (by omega) ?_
        intro j hj
        rcases Nat.lt_or_eq_of_le (Nat.le_of_lt_succ hj) with h2 | rfl
        · exact h j h2
        · exact e
    · exact ih i (by omega) hi h
theorem found_one (l : List S79) (s : ByteArray) (hs : srt l l.length) (a b : Int) (ha : Found l s a) (hb : Found l s b) : a = b := by
  rcases ha with ⟨i, hi, ei, rfl⟩ | ⟨h, rfl⟩
  · rcases hb with ⟨j, hj, ej, rfl⟩ | ⟨h, rfl⟩
    · rcases Nat.lt_trichotomy i j with c | c | c
      · have := hs i j c hj
        rw [ei, ej, bl_irr] at this
        cases this
      · rw [c]
      · have := hs j i c hi
        rw [ei, ej, bl_irr] at this
        cases this
    · exact absurd ei (h i hi)
  · rcases hb with ⟨j, hj, ej, rfl⟩ | ⟨_, rfl⟩
    · exact absurd ej (h j hj)
    · rfl
theorem FnExactFindEntry : laws_FnExactFindEntry.Pure := by
  intro l n hl _
  have mx : maxLen = 9223372036854775807 := by decide
  rw [mx] at hl
  refine Ev.at ?_
  unfold laws_FnExactFindEntry.f
  by_cases c1 : (n.size : Int) > 1048576
  · exact Ev.pos c1 Ev.pure
  obtain ⟨t, ht, hl2⟩ := szEntryS_ev l hl.1 1048576 (by omega) (by omega) (fun g hg => ⟨(hl.2 g hg).1, (hl.2 g hg).2.2.1⟩)
  refine Ev.neg c1 (Ev.bind ht ?_)
  by_cases h0 : t < 0
  · exact Ev.pos h0 Ev.pure
  obtain ⟨p1, p2⟩ := hl2 (by omega)
  have hc := toEntryS_ev l p1
  have ok : ∀ e ∈ l.map cEn, e.f0.size ≤ 1048576 := by
    intro e he
    obtain ⟨x, hx, rfl⟩ := List.mem_map.1 he
    exact (p2 x hx).1
  have hlen : (l.map cEn).length ≤ 1048576 := by simpa using p1
  generalize l.map cEn = x at *
  obtain ⟨r, r1, r2, r3⟩ := tree_ev x hlen ok
  have both : ∃ v, Ev (fun k => spec_FindEntry.f k x n) v ∧ Ev (fun k => impl_FindEntry.f k x n) v := by
    unfold spec_FindEntry.f impl_FindEntry.f
    cases r with
    | false => exact ⟨-1, Ev.bind r1 (Ev.neg (by simp) Ev.pure), Ev.bind r2 (Ev.neg (by simp) Ev.pure)⟩
    | true =>
      obtain ⟨q1, q2⟩ := r3 rfl
      obtain ⟨v, v1, v2⟩ := find_ev x n hlen q2
      have e := found_one x n q2 _ _ v2 (idx_found x n x.length 0 (by omega) (by omega) (fun j hj => absurd hj (by omega)))
      have e2 : impl_entryAt.f x n = some v := by
        rw [impl_entryAt.f, if_pos (by omega), e]
        rfl
      exact ⟨v, Ev.bind r1 (Ev.pos rfl (Ev.bind v1 Ev.pure)), Ev.bind r2 (Ev.pos rfl (Ev.cons e2 Ev.pure))⟩
  obtain ⟨v, v1, v2⟩ := both
  exact Ev.neg h0 (Ev.bind hc (Ev.bind v1 (Ev.bind hc (Ev.bind v2 (Ev.pos rfl (Ev.bind hc (Ev.bind (eqEntryS_ev _ hlen) (Ev.pos rfl Ev.pure))))))))

end Go.Proofs.YtklinldidfdnjaaDoor.Pure
