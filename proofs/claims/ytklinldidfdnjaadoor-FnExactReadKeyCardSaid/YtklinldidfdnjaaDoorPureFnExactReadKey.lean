/- The pure statement of FnExactReadKey: three pieces, or a name and two words by their places: the same keys are read. -/
import Derived.Test.YtklinldidfdnjaaDoorPFnExactReadKeyx4
import Derived.Test.YtklinldidfdnjaaDoorPFnExactReadKeyx4
import Derived.Test.YtklinldidfdnjaaDoorPFnExactReadKeyx4
import Derived.Test.YtklinldidfdnjaaDoorPFnExactReadKeyx4
import Derived.Test.YtklinldidfdnjaaDoorPFnExactReadKeyx4
import Derived.Laws.BitsLemmas
import Derived.Laws.Bits64b
import Derived.Lib.Bytealg
namespace Go.Proofs.YtklinldidfdnjaaDoor.Pure
open Go.RowKit Go.Proofs.YtklinldidfdnjaaDoorW.PrintWords Go.Proofs.YtklinldidfdnjaaDoorW.PrintLast Go.Proofs.YtklinldidfdnjaaDoorW.PrintMore Go.Proofs.YtklinldidfdnjaaDoor.PFnExactReadKey

theorem u64w (n : Int) (h0 : 0 ≤ n) (h1 : n < 18446744073709551616) : IntKind.u64.wrap n = n := by
  simp [IntKind.wrap, IntKind.signed, IntKind.bits]; omega
theorem i64w (n : Int) (h0 : -9223372036854775808 ≤ n) (h1 : n < 9223372036854775808) : IntKind.i64.wrap n = n := by
  rw [IntKind.wrap_i64]; omega
theorem w64 (n : Int) (h0 : -9223372036854775808 ≤ n) (h1 : n < 9223372036854775808) : wrap64 n = n := by unfold wrap64; omega
theorem up1 (i : Int) (h0 : 0 ≤ i) (h : i < 9223372036854775807) : wrap64 (i + 1) = i + 1 := by unfold wrap64; omega
theorem u64_lo (n : Int) : 0 ≤ IntKind.u64.wrap n := by simp [IntKind.wrap, IntKind.signed, IntKind.bits]; omega
theorem u64_hi (n : Int) : IntKind.u64.wrap n < 18446744073709551616 := by simp [IntKind.wrap, IntKind.signed, IntKind.bits]; omega
theorem u64_wf (x : Int) (h : (Lit.int .u64 x).wf = true) : 0 ≤ x ∧ x < 18446744073709551616 := by
  simp [Lit.wf, IntKind.min, IntKind.max, IntKind.signed, IntKind.bits] at h; omega
theorem and31 (x : Int) (h0 : 0 ≤ x) (h1 : x < 18446744073709551616) : Go.bits .and .u64 x 31 = x % 32 := by
  have := bits_mask .u64 64 (by decide) (fun n a b => u64w n a (by simpa using b)) 5 (by decide) x h0 (by simpa using h1)
  simpa using this
theorem or5 (a c : Int) (h0 : 0 ≤ a) (h1 : a * 32 < 18446744073709551616) (hc0 : 0 ≤ c) (hc : c < 32) : Go.bits .or .u64 (a * 32) c = a * 32 + c := by
  have := bits_join .u64 64 (by decide) (fun n x y => u64w n x (by simpa using y)) 5 (a * 32) c (by omega) (by omega) (by simpa using h1) hc0 (by simpa using hc) (by simp; omega)
  exact this
theorem bt_list (l : List UInt8) (i : Int) : bt ⟨l.toArray⟩ i = ((l.getD i.toNat 0).toNat : Int) := by
  unfold bt
  split
  · rename_i h
    have h' : i.toNat < l.length := by simpa [ByteArray.size] using h
    rw [List.getD_eq_getElem?_getD, List.getElem?_eq_getElem h']
    rfl
  · rename_i h
    have h' : l.length ≤ i.toNat := by simpa [ByteArray.size] using h
    rw [List.getD_eq_getElem?_getD, List.getElem?_eq_none h']; rfl
/-- The alphabet of chapter 1. -/
def alpha : ByteArray := ⟨#[48, 49, 50, 51, 52, 53, 54, 55, 56, 57, 97, 98, 99, 100, 102, 103, 104, 105, 106, 107, 108, 109, 110, 112, 113, 114, 115, 118, 119, 120, 121, 122]⟩
/-- The n-th digit from the right, as its byte. -/
def dg (x : Int) (n : Nat) : Int := bt alpha (x / 2 ^ (5 * n) % 32)
/-- The last n digits. -/
def ds (x : Int) : Nat → List Int
  | 0 => []
  | n + 1 => dg x n :: ds x n
theorem ds_length (x : Int) : ∀ n, (ds x n).length = n
  | 0 => rfl
  | n + 1 => by simp [ds, ds_length x n]
/-- The thirteen bytes. -/
def word (x : Int) : ByteArray := strOfNums (ds x 13)
theorem div_lo (x : Int) (h0 : 0 ≤ x) (n : Nat) : 0 ≤ x / 2 ^ n := Int.ediv_nonneg h0 (by have := Nat.two_pow_pos n; exact_mod_cast Nat.zero_le _)
theorem div_hi (x : Int) (h0 : 0 ≤ x) (n : Nat) : x / 2 ^ n ≤ x := Int.ediv_le_self _ h0
theorem shr5 (x : Int) (n : Nat) (hn : n ≤ 12) : shr .u64 x (5 * n) = x / 2 ^ (5 * n) := by
  unfold shr
  have e : (5 * (n : Int)).toNat = 5 * n := by omega
  rw [e, Nat.min_eq_left (by simp [IntKind.bits]; omega)]
/-- What a byte is worth as a digit; -1: it is none. -/
def dv (c : Int) : Int := Lib.indexByte alpha.data.toList c.toNat.toUInt8
theorem dv_all : ∀ c : Fin 256, -1 ≤ dv (c.val : Int) ∧ dv (c.val : Int) < 32 := by decide +kernel
theorem dv_bounds (c : Int) (h0 : 0 ≤ c) (h1 : c ≤ 255) : -1 ≤ dv c ∧ dv c < 32 := by
  have := dv_all ⟨c.toNat, by omega⟩
  simpa [Int.toNat_of_nonneg h0] using this
/-- The number that thirteen digits tell, from the i-th on. -/
def rwGo (s : ByteArray) : Nat → Int → Nat → Int × Bool
  | 0, x, _ => (x, true)
  | d + 1, x, i => if dv (bt s i) < 0 then (0, false) else if i = 0 ∧ dv (bt s i) > 15 then (0, false) else rwGo s d (x * 32 + dv (bt s i)) (i + 1)
def rw32 (s : ByteArray) : Int × Bool := if s.size = 13 then rwGo s 13 0 0 else (0, false)
/-- The bound that the digits so far keep. -/
def lim (d : Nat) : Int := if d = 13 then 1 else 2 ^ (64 - 5 * d)
theorem lim_all : ∀ d : Fin 13, lim d.val ≤ 18446744073709551616 ∧ 0 < lim d.val ∧ (d.val < 12 → lim (d.val + 1) * 32 = lim d.val) ∧ (d.val = 12 → lim d.val = 16) ∧ lim (d.val + 1) * 32 ≤ 18446744073709551616 := by decide +kernel
theorem word_size (x : Int) : (word x).size = 13 := by unfold word; rw [strOfNums_size, ds_length]

-- Ev
/-- With fuel enough the run answers r. -/
def Ev {α : Type} (f : Nat → Option α) (r : α) : Prop := ∃ K, ∀ k, K ≤ k → f k = some r
theorem Ev.pure {α : Type} {r : α} : Ev (fun _ => some r) r := ⟨0, fun _ _ => rfl⟩
theorem Ev.of {α : Type} {f : Nat → Option α} {r : α} (N : Nat) (h : ∀ k, N ≤ k → f k = some r) : Ev f r := ⟨N, h⟩
theorem Ev.step {α : Type} {f : Nat → Option α} {r : α} (h : Ev (fun k => f (k + 1)) r) : Ev f r := by
  obtain ⟨K, h⟩ := h
  refine ⟨K + 1, fun k hk => ?_⟩
  obtain ⟨m, rfl⟩ : ∃ m, k = m + 1 := ⟨k - 1, by omega⟩
  exact h m (by omega)
theorem Ev.bind {α β : Type} {f : Nat → Option α} {g : Nat → α → Option β} {a : α} {r : β} (h : Ev f a) (h2 : Ev (fun k => g k a) r) : Ev (fun k => (f k).bind (g k)) r := by
  obtain ⟨K, h⟩ := h
  obtain ⟨K2, h2⟩ := h2
  refine ⟨K + K2, fun k hk => ?_⟩
  show (f k).bind (g k) = some r
  rw [h k (by omega)]
  exact h2 k (by omega)
theorem Ev.cons {α β : Type} {x : Option α} {g : Nat → α → Option β} {a : α} {r : β} (h : x = some a) (h2 : Ev (fun k => g k a) r) : Ev (fun k => x.bind (g k)) r := by
  subst h
  exact h2
theorem Ev.pos {α : Type} {c : Prop} [Decidable c] {f g : Nat → Option α} {r : α} (hc : c) (h : Ev f r) : Ev (fun k => if c then f k else g k) r := by
  simpa only [if_pos hc] using h
theorem Ev.neg {α : Type} {c : Prop} [Decidable c] {f g : Nat → Option α} {r : α} (hc : ¬ c) (h : Ev g r) : Ev (fun k => if c then f k else g k) r := by
  simpa only [if_neg hc] using h
theorem Ev.at {α : Type} {f : Nat → Option α} {r : α} (h : Ev f r) : ∃ k, f k = some r := by
  obtain ⟨K, h⟩ := h
  exact ⟨K, h K (Nat.le_refl _)⟩
theorem Ev.uniq {α : Type} {f : Nat → Option α} {r s : α} (h : Ev f r) (h2 : Ev f s) : r = s := by
  obtain ⟨K, h⟩ := h
  obtain ⟨K2, h2⟩ := h2
  have a := h (K + K2) (by omega)
  have b := h2 (K + K2) (by omega)
  rw [a] at b
  exact Option.some.inj b
/-- From the end down. -/
theorem downTo (n : Nat) (P : Nat → Prop) (base : P n) (step : ∀ i, i < n → P (i + 1) → P i) : ∀ i, i ≤ n → P i := by
  intro i hi
  obtain ⟨d, rfl⟩ : ∃ d, i = n - d := ⟨n - i, by omega⟩
  clear hi
  induction d with
  | zero => exact base
  | succ d ih =>
    by_cases h : d < n
    · refine step _ (by omega) ?_
      have e : n - (d + 1) + 1 = n - d := by omega
      rw [e]; exact ih
    · have e : n - (d + 1) = n - d := by omega
      rw [e]; exact ih
theorem upN (i : Nat) (h : i < 1000000000000000) : wrap64 ((i : Int) + 1) = ((i + 1 : Nat) : Int) := by unfold wrap64; omega
theorem dnN (i : Nat) (h : i < 1000000000000000) (h0 : 0 < i) : wrap64 ((i : Int) - 1) = ((i - 1 : Nat) : Int) := by unfold wrap64; omega
/-- A loop that sets place by place leaves the row's picture. -/
theorem setLoop {A B : Type} (L : Nat → List B → Int → Option (List B)) (x : List A) (c : A → B)
    (step : ∀ (i : Nat) (y : List B) (r : List B) (h : i < x.length), y.length = x.length → Ev (fun k => L k (y.set i (c x[i])) ((i + 1 : Nat) : Int)) r → Ev (fun k => L k y (i : Int)) r)
    (stop : ∀ y : List B, y.length = x.length → Ev (fun k => L k y ((x.length : Nat) : Int)) y) :
    ∀ y : List B, y.length = x.length → Ev (fun k => L k y 0) (x.map c) := by
  have main := downTo x.length (fun i => ∀ y : List B, y.length = x.length → y.take i = (x.map c).take i → Ev (fun k => L k y (i : Int)) (x.map c)) ?_ ?_
  · intro y hy
    exact main 0 (by omega) y hy (by simp)
  · intro y hy he
    rw [List.take_of_length_le (by omega), List.take_of_length_le (by simp)] at he
    have := stop y hy
    rw [he] at this
    rw [he] at hy
    exact he ▸ stop y (by rw [he]; exact hy)
  · intro i hi ih y hy he
    refine step i y _ hi hy (ih _ (by simp [hy]) ?_)
    rw [List.take_add_one, List.take_add_one, List.take_set_of_le (by omega), he, List.getElem?_set_self (by omega)]
    simp [List.getElem?_eq_getElem hi]
theorem countLoop {α : Type} (L : Nat → Int → Option α) (n : Nat) (r : α) (step : ∀ i : Nat, i < n → Ev (fun k => L k ((i + 1 : Nat) : Int)) r → Ev (fun k => L k (i : Int)) r) (stop : Ev (fun k => L k ((n : Nat) : Int)) r) : Ev (fun k => L k 0) r :=
  downTo n (fun i => Ev (fun k => L k (i : Int)) r) stop (fun i hi h => step i hi h) 0 (by omega)

-- NameOk
def nmByte (c : Int) : Bool := (decide (97 ≤ c) && decide (c ≤ 122)) || (decide (65 ≤ c) && decide (c ≤ 90)) || (decide (48 ≤ c) && decide (c ≤ 57)) || c == 45 || c == 95 || c == 46 || c == 43
/-- Are n bytes from the i-th on those of a name? -/
def nmGo (s : ByteArray) : Nat → Nat → Bool
  | 0, _ => true
  | d + 1, i => nmByte (bt s i) && nmGo s d (i + 1)
/-- A name. -/
def nmOk (s : ByteArray) : Bool := decide (1 ≤ s.size) && decide (s.size ≤ 60) && !(bt s 0 == 46) && nmGo s s.size 0
theorem l1Letter_f (c : Int) : spec_l1Letter.f c = some ((decide (97 ≤ c) && decide (c ≤ 122)) || (decide (65 ≤ c) && decide (c ≤ 90))) := by
  unfold spec_l1Letter.f
  by_cases h1 : 97 ≤ c <;> by_cases h2 : c ≤ 122 <;> by_cases h3 : 65 ≤ c <;> by_cases h4 : c ≤ 90 <;> simp [h1, h2, h3, h4] <;> omega
theorem l1Digit_f (c : Int) : spec_l1Digit.f c = some (decide (48 ≤ c) && decide (c ≤ 57)) := by
  unfold spec_l1Digit.f
  by_cases h1 : 48 ≤ c <;> by_cases h2 : c ≤ 57 <;> simp [h1, h2]
theorem letter_f (c : Int) : impl_letter.f c = some ((decide (97 ≤ c) && decide (c ≤ 122)) || (decide (65 ≤ c) && decide (c ≤ 90))) := by
  unfold impl_letter.f
  by_cases h1 : 97 ≤ c <;> by_cases h2 : c ≤ 122 <;> by_cases h3 : 65 ≤ c <;> by_cases h4 : c ≤ 90 <;> simp [h1, h2, h3, h4] <;> omega
theorem digit_f (c : Int) : impl_digit.f c = some (decide (48 ≤ c) && decide (c ≤ 57)) := by
  unfold impl_digit.f
  by_cases h1 : 48 ≤ c <;> by_cases h2 : c ≤ 57 <;> simp [h1, h2]
theorem spec_NameOk_loop (s : ByteArray) (hs : s.size ≤ 60) : ∀ (d i k : Nat), i + d = s.size → d < k → spec_NameOk.l0 k s (i : Int) = some (nmGo s d i) := by
  intro d
  induction d with
  | zero =>
    intro i k hi hk
    obtain ⟨k, rfl⟩ : ∃ m, k = m + 1 := ⟨k - 1, by omega⟩
    simp only [spec_NameOk.l0]; rw [if_neg (by omega)]; rfl
  | succ d ih =>
    intro i k hi hk
    obtain ⟨k, rfl⟩ : ∃ m, k = m + 1 := ⟨k - 1, by omega⟩
    have e3 : wrap64 ((i : Int) + 1) = ((i + 1 : Nat) : Int) := by rw [up1 _ (by omega) (by omega)]; omega
    simp only [spec_NameOk.l0, nmGo, nmByte]
    rw [if_pos (by omega), if_pos (by omega), l1Letter_f, l1Digit_f, e3, ih (i + 1) k (by omega) (by omega)]
    simp only [Option.bind_some]
    generalize bt s (i : Int) = c
    generalize nmGo s d (i + 1) = g
    generalize ((decide (97 ≤ c) && decide (c ≤ 122)) || (decide (65 ≤ c) && decide (c ≤ 90))) = p
    generalize (decide (48 ≤ c) && decide (c ≤ 57)) = q
    cases p <;> cases q <;> simp
    by_cases h1 : c = 45
    · simp [h1]
    · by_cases h2 : c = 95
      · simp [h2]
      · by_cases h3 : c = 46
        · simp [h3]
        · by_cases h4 : c = 43
          · simp [h4]
          · simp [h1, h2, h3, h4]
theorem spec_NameOk_f (s : ByteArray) (k : Nat) (hk : 63 ≤ k) : spec_NameOk.f k s = some (nmOk s) := by
  obtain ⟨k, rfl⟩ : ∃ m, k = m + 1 := ⟨k - 1, by omega⟩
  unfold spec_NameOk.f nmOk
  simp only [spec_NameOk.j0]
  by_cases h1 : (s.size : Int) < 1
  · rw [if_pos h1]
    have : ¬ 1 ≤ s.size := by omega
    simp [this]
  · rw [if_neg h1]
    have e1 : 1 ≤ s.size := by omega
    by_cases h2 : (s.size : Int) > 60
    · rw [if_pos h2]
      have : ¬ s.size ≤ 60 := by omega
      simp [this]
    · rw [if_neg h2, if_pos (by omega)]
      have e2 : s.size ≤ 60 := by omega
      have h := spec_NameOk_loop s e2 s.size 0 k (by omega) (by omega)
      rw [show ((0 : Nat) : Int) = 0 from rfl] at h
      rw [h]
      by_cases h3 : bt s 0 = 46
      · simp [h3]
      · simp [h3, e1, e2]
theorem w32_byte (s : ByteArray) (i : Int) : wrap32 (bt s i) = bt s i := by
  have := bt_range s i
  unfold wrap32; omega
theorem impl_NameOk_loop (s : ByteArray) (hs : s.size ≤ 60) : ∀ (d i k : Nat), i + d = s.size → d < k → impl_NameOk.l0 k s (s.size : Int) (i : Int) = some (nmGo s d i) := by
  intro d
  induction d with
  | zero =>
    intro i k hi hk
    obtain ⟨k, rfl⟩ : ∃ m, k = m + 1 := ⟨k - 1, by omega⟩
    simp only [impl_NameOk.l0]; rw [if_neg (by omega)]; rfl
  | succ d ih =>
    intro i k hi hk
    obtain ⟨k, rfl⟩ : ∃ m, k = m + 1 := ⟨k - 1, by omega⟩
    have e3 : wrap64 ((i : Int) + 1) = ((i + 1 : Nat) : Int) := by rw [up1 _ (by omega) (by omega)]; omega
    have hb := bt_range s (i : Int)
    have e4 : strings_ContainsRune.f (⟨#[45, 95, 46, 43]⟩ : ByteArray) (bt s (i : Int)) = some (bt s (i : Int) == 45 || bt s (i : Int) == 95 || bt s (i : Int) == 46 || bt s (i : Int) == 43) := by
      unfold strings_ContainsRune.f
      rw [if_pos (by rw [Lib.toList_data]), if_pos (by omega)]
    simp only [impl_NameOk.l0, nmGo, nmByte]
    rw [if_pos (by omega), if_pos (by omega), if_pos (by omega), letter_f, digit_f, w32_byte, e4, e3, ih (i + 1) k (by omega) (by omega)]
    simp only [Option.bind_some]
    generalize bt s (i : Int) = c
    generalize nmGo s d (i + 1) = g
    generalize ((decide (97 ≤ c) && decide (c ≤ 122)) || (decide (65 ≤ c) && decide (c ≤ 90))) = p
    generalize (decide (48 ≤ c) && decide (c ≤ 57)) = q
    generalize (c == 45) = r1
    generalize (c == 95) = r2
    generalize (c == 46) = r3
    generalize (c == 43) = r4
    cases p <;> cases q <;> cases r1 <;> cases r2 <;> cases r3 <;> cases r4 <;> simp
theorem impl_NameOk_f (s : ByteArray) (k : Nat) (hk : 63 ≤ k) : impl_NameOk.f k s = some (nmOk s) := by
  obtain ⟨k, rfl⟩ : ∃ m, k = m + 1 := ⟨k - 1, by omega⟩
  unfold impl_NameOk.f nmOk
  simp only [impl_NameOk.j0]
  by_cases h1 : (s.size : Int) < 1
  · rw [if_pos h1]
    have : ¬ 1 ≤ s.size := by omega
    simp [this]
  · rw [if_neg h1]
    have e1 : 1 ≤ s.size := by omega
    by_cases h2 : (s.size : Int) > 60
    · rw [if_pos h2]
      have : ¬ s.size ≤ 60 := by omega
      simp [this]
    · rw [if_neg h2, if_pos (by omega)]
      have e2 : s.size ≤ 60 := by omega
      have h := impl_NameOk_loop s e2 s.size 0 k (by omega) (by omega)
      rw [show ((0 : Nat) : Int) = 0 from rfl] at h
      rw [h]
      by_cases h3 : bt s 0 = 46
      · simp [h3]
      · simp [h3, e1, e2]

-- ReadWord32
theorem l1Index_all : ∀ c : Fin 256, spec_l1Index.f 40 (c.val : Int) = some (dv (c.val : Int)) := by decide +kernel
theorem l1Index_f (c : Int) (h0 : 0 ≤ c) (h1 : c ≤ 255) (k : Nat) (hk : 40 ≤ k) : spec_l1Index.f k c = some (dv c) := by
  have := l1Index_all ⟨c.toNat, by omega⟩
  simp only [Int.toNat_of_nonneg h0] at this
  exact at_rounds (g := fun k => spec_l1Index.f k c) (fun k => spec_l1Index.mono c k) hk this
theorem rw_both (s : ByteArray) (hs : s.size = 13) : ∀ (d i : Nat) (x : Int) (k : Nat), i + d = 13 → 0 ≤ x → x < lim d → d + 41 < k →
    spec_ReadWord32.l0 k s x (i : Int) = some (rwGo s d x i) ∧ impl_ReadWord32.l0 k s x (s.size : Int) (i : Int) = some (rwGo s d x i) := by
  intro d
  induction d with
  | zero =>
    intro i x k hi hx hl hk
    obtain ⟨k, rfl⟩ : ∃ m, k = m + 1 := ⟨k - 1, by omega⟩
    constructor
    · simp only [spec_ReadWord32.l0]; rw [if_neg (by omega)]; rfl
    · simp only [impl_ReadWord32.l0]; rw [if_neg (by omega)]; rfl
  | succ d ih =>
    intro i x k hi hx hl hk
    obtain ⟨k, rfl⟩ : ∃ m, k = m + 1 := ⟨k - 1, by omega⟩
    obtain ⟨b0, b1⟩ := bt_range s (i : Int)
    obtain ⟨t0, t1⟩ := dv_bounds (bt s (i : Int)) b0 b1
    have hf := l1Index_f (bt s (i : Int)) b0 b1 k (by omega)
    have hg : strings_IndexByte.f alpha (bt s (i : Int)) = some (dv (bt s (i : Int))) := rfl
    unfold alpha at hg
    have e3 : ((i : Int) + 1) = ((i + 1 : Nat) : Int) := by omega
    obtain ⟨m0, m1, m2, m3, m4⟩ := lim_all ⟨d, by omega⟩
    simp only at m0 m1 m2 m3 m4
    constructor
    · simp only [spec_ReadWord32.l0, rwGo]
      rw [if_pos (by omega), if_pos (by omega), if_pos (by omega), hf]
      simp only [Option.bind_some]
      by_cases h1 : dv (bt s (i : Int)) < 0
      · rw [if_pos h1, if_pos h1]
      · have e4 : IntKind.u64.wrap (IntKind.u64.wrap (x * 32) + IntKind.u64.wrap (dv (bt s (i : Int)))) = x * 32 + dv (bt s (i : Int)) := by
          rw [u64w (x * 32) (by omega) (by omega), u64w (dv _) (by omega) (by omega)]
          by_cases hd : d = 12
          · subst hd
            have hx0 : x = 0 := by simp [lim] at hl; omega
            subst hx0
            exact u64w _ (by omega) (by omega)
          · have := m2 (by omega)
            exact u64w _ (by omega) (by omega)
        rw [if_neg h1, if_neg h1, e4, up1 _ (by omega) (by omega), e3]
        by_cases h0 : i = 0
        · subst h0
          rw [if_pos (by omega)]
          by_cases h2 : dv (bt s ((0 : Nat) : Int)) > 15
          · rw [if_pos h2, if_pos ⟨rfl, h2⟩]
          · have hx0 : x = 0 := by
              have : d = 12 := by omega
              subst this; simp [lim] at hl; omega
            have := m3 (by omega)
            rw [if_neg h2, if_neg (by rintro ⟨_, h⟩; exact h2 h)]
            exact (ih _ _ k (by omega) (by omega) (by omega) (by omega)).1
        · have := m2 (by omega)
          rw [if_neg (by omega), if_neg (by rintro ⟨h, _⟩; exact h0 h)]
          exact (ih _ _ k (by omega) (by omega) (by omega) (by omega)).1
    · simp only [impl_ReadWord32.l0, rwGo]
      rw [if_pos (by omega), if_pos (by omega), if_pos (by omega), hg]
      simp only [Option.bind_some]
      by_cases h1 : dv (bt s (i : Int)) < 0
      · rw [if_pos h1, if_pos h1]
      · have e4 : Go.bits .or .u64 (IntKind.u64.wrap (x * 32)) (IntKind.u64.wrap (dv (bt s (i : Int)))) = x * 32 + dv (bt s (i : Int)) := by
          rw [u64w (dv _) (by omega) (by omega)]
          by_cases hd : d = 12
          · subst hd
            have hx0 : x = 0 := by simp [lim] at hl; omega
            subst hx0
            rw [u64w (0 * 32) (by omega) (by omega)]
            exact or5 0 _ (by omega) (by omega) (by omega) (by omega)
          · have := m2 (by omega)
            rw [u64w (x * 32) (by omega) (by omega)]
            exact or5 x _ (by omega) (by omega) (by omega) (by omega)
        rw [if_neg h1, if_neg h1, e4, up1 _ (by omega) (by omega), e3]
        by_cases h0 : i = 0
        · subst h0
          rw [if_pos (by omega)]
          by_cases h2 : dv (bt s ((0 : Nat) : Int)) > 15
          · rw [if_pos h2, if_pos ⟨rfl, h2⟩]
          · have hx0 : x = 0 := by
              have : d = 12 := by omega
              subst this; simp [lim] at hl; omega
            have := m3 (by omega)
            rw [if_neg h2, if_neg (by rintro ⟨_, h⟩; exact h2 h)]
            exact (ih _ _ k (by omega) (by omega) (by omega) (by omega)).2
        · have := m2 (by omega)
          rw [if_neg (by omega), if_neg (by rintro ⟨h, _⟩; exact h0 h)]
          exact (ih _ _ k (by omega) (by omega) (by omega) (by omega)).2
theorem spec_ReadWord32_f (s : ByteArray) (k : Nat) (hk : 60 ≤ k) : spec_ReadWord32.f k s = some (rw32 s) := by
  unfold spec_ReadWord32.f rw32
  by_cases h : s.size = 13
  · rw [if_pos (by omega), if_pos h]
    exact (rw_both s h 13 0 0 k (by omega) (by omega) (by decide) (by omega)).1
  · rw [if_neg (by omega), if_neg h]
theorem impl_ReadWord32_f (s : ByteArray) (k : Nat) (hk : 60 ≤ k) : impl_ReadWord32.f k s = some (rw32 s) := by
  unfold impl_ReadWord32.f rw32
  by_cases h : s.size = 13
  · rw [if_pos (by omega), if_pos h]
    exact (rw_both s h 13 0 0 k (by omega) (by omega) (by decide) (by omega)).2
  · rw [if_neg (by omega), if_neg h]

-- SplitB
/-- The byte does not stand in the text. -/
def noB (c : UInt8) (a : ByteArray) : Prop := c ∉ a.data.toList
def one (c : UInt8) : ByteArray := ⟨#[c]⟩
theorem ib_none (c : UInt8) : ∀ (a : List UInt8), c ∉ a → Lib.indexByte a c = -1
  | [], _ => rfl
  | x :: a, h => by
    have h1 : (x == c) = false := by
      rw [beq_eq_false_iff_ne]
      intro e
      exact h (by rw [e]; exact List.mem_cons_self)
    unfold Lib.indexByte
    rw [h1, ib_none c a (fun hm => h (List.mem_cons_of_mem _ hm))]
    rfl
theorem ib_app (c : UInt8) (b : List UInt8) : ∀ (a : List UInt8), c ∉ a → Lib.indexByte (a ++ c :: b) c = (a.length : Int)
  | [], _ => by simp [Lib.indexByte]
  | x :: a, h => by
    have h1 : (x == c) = false := by
      rw [beq_eq_false_iff_ne]
      intro e
      exact h (by rw [e]; exact List.mem_cons_self)
    have ih := ib_app c b a (fun hm => h (List.mem_cons_of_mem _ hm))
    show Lib.indexByte (x :: (a ++ c :: b)) c = _
    unfold Lib.indexByte
    rw [h1, ih]
    simp only [List.length_cons, Bool.false_eq_true, if_false]
    have : ((a.length : Int) == -1) = false := by rw [beq_eq_false_iff_ne]; omega
    rw [this]
    simp
theorem app_data (a b : ByteArray) (c : UInt8) : ((a ++ one c) ++ b).data.toList = a.data.toList ++ c :: b.data.toList := by
  rw [ByteArray.data_append, ByteArray.data_append, Array.toList_append, Array.toList_append]
  show (a.data.toList ++ [c]) ++ b.data.toList = _
  rw [List.append_assoc]
  rfl
theorem indexB_none {c : UInt8} {s : ByteArray} (h : noB c s) : Lib.indexB s (one c) = -1 := by
  show Lib.index s.data.toList [c] = -1
  rw [Lib.index_one]
  exact ib_none c _ h
theorem indexB_app {c : UInt8} {a b : ByteArray} (h : noB c a) : Lib.indexB ((a ++ one c) ++ b) (one c) = (a.size : Int) := by
  show Lib.index ((a ++ one c) ++ b).data.toList [c] = _
  rw [Lib.index_one, app_data, ib_app c _ _ h, Array.length_toList]
  rfl
theorem countB_none {c : UInt8} {s : ByteArray} (h : noB c s) : Lib.countB s (one c) = 0 := by
  show Lib.count s.data.toList [c] = 0
  rw [Lib.count_one]
  exact List.count_eq_zero.2 h
theorem countB_app {c : UInt8} {a b : ByteArray} (h : noB c a) : Lib.countB ((a ++ one c) ++ b) (one c) = Lib.countB b (one c) + 1 := by
  show Lib.count ((a ++ one c) ++ b).data.toList [c] = Lib.count b.data.toList [c] + 1
  rw [Lib.count_one, Lib.count_one, app_data, List.count_append, List.count_cons_self, List.count_eq_zero.2 h]
  omega
/-- The pieces between the bytes c. -/
def spl (c : UInt8) (s : ByteArray) : List ByteArray := Lib.splitB (one c) 0 (Lib.countB s (one c)) s
theorem spl_none {c : UInt8} {s : ByteArray} (h : noB c s) : spl c s = [s] := Lib.splitB_miss _ _ _ _ (indexB_none h)
theorem spl_cons {c : UInt8} {a b : ByteArray} (h : noB c a) : spl c ((a ++ one c) ++ b) = a :: spl c b := by
  unfold spl
  rw [countB_app h, Lib.splitB_hit _ _ _ _ _ (indexB_app h)]
  have h1 : ((a ++ one c) ++ b).extract 0 (a.size + 0) = a := by
    rw [ByteArray.append_assoc]
    exact ByteArray.extract_append_eq_left rfl
  have h2 : ((a ++ one c) ++ b).extract (a.size + (one c).size) ((a ++ one c) ++ b).size = b :=
    ByteArray.extract_append_eq_right (by rw [ByteArray.size_append]) (by rw [ByteArray.size_append])
  rw [h1, h2]
/-- A text has no such byte, or falls in two at the first. -/
theorem cutB (c : UInt8) (s : ByteArray) : noB c s ∨ ∃ a b, noB c a ∧ s = (a ++ one c) ++ b := by
  by_cases h : c ∈ s.data.toList
  · right
    obtain ⟨x, y, hxy, hx⟩ : ∃ x y, s.data.toList = x ++ c :: y ∧ c ∉ x := by
      generalize s.data.toList = l at h
      induction l with
      | nil => simp at h
      | cons z l ih =>
        by_cases e : z = c
        · subst e
          exact ⟨[], l, rfl, by simp⟩
        · have hl : c ∈ l := by
            rcases List.mem_cons.1 h with h | h
            · exact absurd h.symm e
            · exact h
          obtain ⟨x, y, e1, e2⟩ := ih hl
          refine ⟨z :: x, y, by rw [e1]; rfl, ?_⟩
          intro hm
          rcases List.mem_cons.1 hm with hm | hm
          · exact e hm.symm
          · exact e2 hm
    refine ⟨⟨x.toArray⟩, ⟨y.toArray⟩, by simpa [noB] using hx, ?_⟩
    apply ByteArray.ext
    apply Array.ext'
    rw [app_data, hxy]
  · exact Or.inl h
theorem spl_ne (c : UInt8) (s : ByteArray) : spl c s ≠ [] := by
  rcases cutB c s with h | ⟨a, b, h, rfl⟩
  · rw [spl_none h]; simp
  · rw [spl_cons h]; simp
theorem noB_bt {c : UInt8} {a : ByteArray} : noB c a ↔ ∀ i : Nat, i < a.size → bt a (i : Int) ≠ (c.toNat : Int) := by
  unfold noB
  constructor
  · intro h i hi e
    apply h
    rw [← bt_at a (i : Int) (by simpa using hi)] at e
    have e2 : a[i]'hi = c := UInt8.toNat.inj (by exact_mod_cast e)
    rw [← e2]
    simp only [ByteArray.getElem_eq_getElem_data]
    exact Array.getElem_mem_toList _
  · intro h hm
    obtain ⟨i, hi, e⟩ := List.mem_iff_getElem.1 hm
    have hi' : i < a.size := by rw [Array.length_toList] at hi; exact hi
    apply h i hi'
    rw [← bt_at a (i : Int) (by simpa using hi')]
    have e2 : a[i]'hi' = c := by
      rw [← e]
      rfl
    have : (a[((i : Nat) : Int).toNat]'(by simpa using hi')) = c := e2
    rw [this]
theorem ex_data (s : ByteArray) (a b : Nat) : (s.extract a b).data.toList = (s.data.toList.drop a).take (b - a) := by rw [← Lib.toList_data, Lib.extract_toList]
theorem cutAt (s : ByteArray) (c : UInt8) (k : Nat) (hk : k < s.size) (h : bt s (k : Int) = (c.toNat : Int)) : s = (s.extract 0 k ++ one c) ++ s.extract (k + 1) s.size := by
  have hl : k < s.data.toList.length := by rw [Array.length_toList]; exact hk
  have hc : s.data.toList[k] = c := by
    rw [← bt_at s (k : Int) (by simpa using hk)] at h
    have e2 : s[k]'hk = c := UInt8.toNat.inj (by exact_mod_cast h)
    rw [← e2]
    rfl
  apply ByteArray.ext
  apply Array.ext'
  rw [app_data, ex_data, ex_data, List.drop_zero, Nat.sub_zero]
  have e : (s.data.toList.drop (k + 1)).take (s.size - (k + 1)) = s.data.toList.drop (k + 1) := List.take_of_length_le (by rw [List.length_drop, Array.length_toList]; exact Nat.le_refl _)
  rw [e, ← hc, ← List.drop_eq_getElem_cons hl, List.take_append_drop]
theorem bt_ex (s : ByteArray) (a i : Nat) (h : a + i < s.size) : bt (s.extract a s.size) (i : Int) = bt s ((a + i : Nat) : Int) := by
  rw [← bt_at s ((a + i : Nat) : Int) (by rw [Int.toNat_natCast]; exact h), ← bt_at (s.extract a s.size) (i : Int) (by rw [ByteArray.size_extract]; simp; omega)]
  congr 2
  simp only [Int.toNat_natCast]
  rw [ByteArray.getElem_extract]

-- WordBack
theorem bt_nums (l : List Int) (i : Nat) (h : i < l.length) (hr : 0 ≤ l[i] ∧ l[i] ≤ 255) : bt (strOfNums l) (i : Int) = l[i] := by
  have e : (strOfNums l) = ⟨(l.map fun n => UInt8.ofNat n.toNat).toArray⟩ := rfl
  rw [e, bt_list, List.getD_eq_getElem?_getD, Int.toNat_natCast, List.getElem?_map, List.getElem?_eq_getElem h]
  simp only [Option.map_some, Option.getD_some]
  rw [UInt8.toNat_ofNat']
  omega
theorem dg_range (x : Int) (n : Nat) : 0 ≤ dg x n ∧ dg x n ≤ 255 := bt_range _ _
theorem ds_get (x : Int) : ∀ (n i : Nat) (h : i < (ds x n).length), (ds x n)[i] = dg x (n - 1 - i) := by
  intro n
  induction n with
  | zero => intro i h; exact absurd h (by simp [ds])
  | succ n ih =>
    intro i h
    cases i with
    | zero => rfl
    | succ i =>
      have h' : i < (ds x n).length := by simpa [ds] using h
      have := ih i h'
      simp only [ds, List.getElem_cons_succ]
      rw [this]
      congr 1
      omega
theorem bt_word (x : Int) (i : Nat) (h : i < 13) : bt (word x) (i : Int) = dg x (12 - i) := by
  have hl : i < (ds x 13).length := by rw [ds_length]; exact h
  have e := ds_get x 13 i hl
  have := bt_nums (ds x 13) i hl (by rw [e]; exact dg_range _ _)
  unfold word
  rw [this, e]
theorem dv_alpha_all : ∀ j : Fin 32, dv (bt alpha (j.val : Int)) = (j.val : Int) := by decide +kernel
theorem alpha_dv_all : ∀ c : Fin 256, 0 ≤ dv (c.val : Int) → bt alpha (dv (c.val : Int)) = (c.val : Int) := by decide +kernel
theorem dv_alpha (j : Int) (h0 : 0 ≤ j) (h1 : j < 32) : dv (bt alpha j) = j := by
  have := dv_alpha_all ⟨j.toNat, by omega⟩
  simpa [Int.toNat_of_nonneg h0] using this
theorem alpha_dv (c : Int) (h0 : 0 ≤ c) (h1 : c ≤ 255) (h : 0 ≤ dv c) : bt alpha (dv c) = c := by
  have := alpha_dv_all ⟨c.toNat, by omega⟩
  simp only [Int.toNat_of_nonneg h0] at this
  exact this h
theorem pw5 (d : Nat) : (2 : Int) ^ (5 * (d + 1)) = 2 ^ (5 * d) * 32 := by
  rw [show 5 * (d + 1) = 5 * d + 5 by omega, Int.pow_add]
  rfl
theorem div5 (x : Int) (d : Nat) : x / 2 ^ (5 * (d + 1)) = x / 2 ^ (5 * d) / 32 := by
  rw [pw5, Int.ediv_ediv_of_nonneg (by exact_mod_cast Nat.zero_le _)]
/-- A word is read as its number. -/
theorem rw_word (x : Int) (h0 : 0 ≤ x) (h1 : x < 18446744073709551616) : ∀ (d i : Nat), i + d = 13 → rwGo (word x) d (x / 2 ^ (5 * d)) i = (x, true) := by
  intro d
  induction d with
  | zero => intro i _; simp [rwGo]
  | succ d ih =>
    intro i hi
    have q0 : 0 ≤ x / 2 ^ (5 * d) := div_lo x h0 _
    have e : dv (bt (word x) (i : Int)) = x / 2 ^ (5 * d) % 32 := by
      rw [bt_word x i (by omega), show 12 - i = d by omega]
      unfold dg
      exact dv_alpha _ (by omega) (by omega)
    unfold rwGo
    rw [e, if_neg (by omega), if_neg, div5]
    · have e2 : x / 2 ^ (5 * d) / 32 * 32 + x / 2 ^ (5 * d) % 32 = x / 2 ^ (5 * d) := by omega
      rw [e2]
      exact ih (i + 1) (by omega)
    · rintro ⟨rfl, h⟩
      have hd : d = 12 := by omega
      subst hd
      have : (2 : Int) ^ (5 * 12) = 1152921504606846976 := by decide
      rw [this] at h
      omega
theorem rw32_word (x : Int) (h0 : 0 ≤ x) (h1 : x < 18446744073709551616) : rw32 (word x) = (x, true) := by
  unfold rw32
  rw [if_pos (word_size x)]
  have := rw_word x h0 h1 13 0 (by omega)
  have e : (2 : Int) ^ (5 * 13) = 36893488147419103232 := by decide
  rw [e] at this
  have e2 : x / 36893488147419103232 = 0 := by omega
  rw [e2] at this
  exact this
/-- What is read tells the digits. -/
theorem rw_back (s : ByteArray) : ∀ (d i : Nat) (a z : Int), i + d = 13 → 0 ≤ a → rwGo s d a i = (z, true) → 0 ≤ z ∧ z / 2 ^ (5 * d) = a ∧ (i = 0 → a = 0 → z < 18446744073709551616) ∧ ∀ j, i ≤ j → j < 13 → bt alpha (z / 2 ^ (5 * (12 - j)) % 32) = bt s (j : Int) := by
  intro d
  induction d with
  | zero =>
    intro i a z hi ha h
    simp only [rwGo, Prod.mk.injEq, and_true] at h
    subst h
    refine ⟨ha, by simp, fun h => by omega, fun j h1 h2 => by omega⟩
  | succ d ih =>
    intro i a z hi ha h
    unfold rwGo at h
    obtain ⟨b0, b1⟩ := bt_range s (i : Int)
    obtain ⟨t0, t1⟩ := dv_bounds (bt s (i : Int)) b0 b1
    by_cases c1 : dv (bt s (i : Int)) < 0
    · rw [if_pos c1] at h; simp at h
    rw [if_neg c1] at h
    by_cases c2 : i = 0 ∧ dv (bt s (i : Int)) > 15
    · rw [if_pos c2] at h; simp at h
    rw [if_neg c2] at h
    obtain ⟨z0, z1, _, z3⟩ := ih (i + 1) _ z (by omega) (by omega) h
    have q : z / 2 ^ (5 * (d + 1)) = a := by rw [div5, z1]; omega
    refine ⟨z0, q, ?_, ?_⟩
    · intro hi0 ha0
      subst hi0
      subst ha0
      have hd : d = 12 := by omega
      subst hd
      have e : (2 : Int) ^ (5 * 12) = 1152921504606846976 := by decide
      rw [e] at z1
      have : dv (bt s ((0 : Nat) : Int)) ≤ 15 := by
        rcases Int.lt_or_le 15 (dv (bt s ((0 : Nat) : Int))) with hh | hh
        · exact absurd ⟨rfl, hh⟩ c2
        · exact hh
      omega
    · intro j h1 h2
      by_cases hj : j = i
      · subst hj
        rw [show 12 - j = d by omega, z1]
        have e : (a * 32 + dv (bt s (j : Int))) % 32 = dv (bt s (j : Int)) := by omega
        rw [e]
        exact alpha_dv _ b0 b1 (by omega)
      · exact z3 j (by omega) h2
theorem bt_ext {s t : ByteArray} (h : s.size = t.size) (hb : ∀ i : Nat, i < s.size → bt s (i : Int) = bt t (i : Int)) : s = t := by
  apply ByteArray.ext
  apply Array.ext
  · exact h
  · intro i h1 h2
    have := hb i h1
    rw [← bt_at s (i : Int) (by simpa using h1), ← bt_at t (i : Int) (by simpa using h2)] at this
    have e : (s[i]'h1).toNat = (t[i]'h2).toNat := by exact_mod_cast this
    exact UInt8.toNat.inj e
theorem rw32_back (s : ByteArray) (z : Int) (h : rw32 s = (z, true)) : 0 ≤ z ∧ z < 18446744073709551616 ∧ word z = s := by
  unfold rw32 at h
  by_cases hs : s.size = 13
  · rw [if_pos hs] at h
    obtain ⟨z0, _, z2, z3⟩ := rw_back s 13 0 0 z (by omega) (by omega) h
    refine ⟨z0, z2 rfl rfl, bt_ext (by rw [word_size, hs]) fun i hi => ?_⟩
    rw [word_size] at hi
    rw [bt_word z i hi]
    exact z3 i (by omega) hi
  · rw [if_neg hs] at h; simp at h

theorem nm_no (s : ByteArray) (h : nmOk s = true) (c : UInt8) (hc : nmByte (c.toNat : Int) = false) : noB c s := by
  rw [noB_bt]
  have hg : nmGo s s.size 0 = true := by
    unfold nmOk at h
    simp only [Bool.and_eq_true] at h
    exact h.2
  have key : ∀ (d i : Nat), nmGo s d i = true → ∀ j, i ≤ j → j < i + d → nmByte (bt s (j : Int)) = true := by
    intro d
    induction d with
    | zero => intro i _ j h1 h2; omega
    | succ d ih =>
      intro i hd j h1 h2
      simp only [nmGo, Bool.and_eq_true] at hd
      by_cases e : j = i
      · subst e; exact hd.1
      · exact ih (i + 1) hd.2 j (by omega) (by omega)
  intro i hi e
  have := key s.size 0 hg i (by omega) (by omega)
  rw [e, hc] at this
  exact absurd this (by decide)
theorem rw_no (s : ByteArray) (z : Int) (h : rw32 s = (z, true)) : noB 58 s := by
  obtain ⟨z0, z1, hw⟩ := rw32_back s z h
  rw [noB_bt, ← hw]
  intro i hi e
  rw [word_size] at hi
  rw [bt_word z i hi] at e
  have q0 : 0 ≤ z / 2 ^ (5 * (12 - i)) := div_lo z z0 _
  have hd : dv (dg z (12 - i)) = z / 2 ^ (5 * (12 - i)) % 32 := dv_alpha _ (by omega) (by omega)
  rw [e] at hd
  have : dv ((58 : UInt8).toNat : Int) = -1 := by decide +kernel
  omega
theorem rw_size (s : ByteArray) (z : Int) (h : rw32 s = (z, true)) : s.size = 13 := by
  obtain ⟨_, _, hw⟩ := rw32_back s z h
  rw [← hw, word_size]
/-- A key's text, taken apart. -/
def rkSpec (s : ByteArray) : ByteArray × Int × Int × Bool :=
  if 29 ≤ s.size ∧ bt s ((s.size - 28 : Nat) : Int) = 58 ∧ bt s ((s.size - 14 : Nat) : Int) = 58 ∧ (rw32 (s.extract (s.size - 27) (s.size - 14))).2 = true ∧ (rw32 (s.extract (s.size - 13) s.size)).2 = true ∧ nmOk (s.extract 0 (s.size - 28)) = true then
    (s.extract 0 (s.size - 28), (rw32 (s.extract (s.size - 27) (s.size - 14))).1, (rw32 (s.extract (s.size - 13) s.size)).1, true) else ((⟨#[]⟩ : ByteArray), 0, 0, false)
def rkImpl (s : ByteArray) : ByteArray × Int × Int × Bool :=
  match spl 58 s with
  | [a, b, c] => if nmOk a = true ∧ (rw32 b).2 = true ∧ (rw32 c).2 = true then (a, (rw32 b).1, (rw32 c).1, true) else ((⟨#[]⟩ : ByteArray), 0, 0, false)
  | _ => ((⟨#[]⟩ : ByteArray), 0, 0, false)
theorem three (a b c : ByteArray) (h1 : 1 ≤ a.size) (h2 : b.size = 13) (h3 : c.size = 13) :
    let s := (a ++ one 58) ++ ((b ++ one 58) ++ c)
    s.size = a.size + 28 ∧ bt s ((s.size - 28 : Nat) : Int) = 58 ∧ bt s ((s.size - 14 : Nat) : Int) = 58 ∧ s.extract (s.size - 27) (s.size - 14) = b ∧ s.extract (s.size - 13) s.size = c ∧ s.extract 0 (s.size - 28) = a := by
  have o1 : (one 58).size = 1 := rfl
  intro s
  have hs : s.size = a.size + 28 := by
    show ((a ++ one 58) ++ ((b ++ one 58) ++ c)).size = _
    simp only [ByteArray.size_append, o1, h2, h3]
  have btm : ∀ (x y : ByteArray), bt ((x ++ one 58) ++ y) (x.size : Int) = 58 := by
    intro x y
    rw [← bt_at _ (x.size : Int) (by simp [ByteArray.size_append, o1]; omega)]
    have : ((x ++ one 58) ++ y)[(x.size : Int).toNat]'(by simp [ByteArray.size_append, o1]; omega) = 58 := by
      simp only [Int.toNat_natCast]
      rw [ByteArray.getElem_append_left (by rw [ByteArray.size_append, o1]; omega), ByteArray.getElem_append_right (by omega)]
      simp only [Nat.sub_self]
      rfl
    rw [this]
    rfl
  refine ⟨hs, ?_, ?_, ?_, ?_, ?_⟩
  · rw [hs, show a.size + 28 - 28 = a.size by omega]
    exact btm a _
  · rw [hs, show a.size + 28 - 14 = ((a ++ one 58) ++ b).size by simp only [ByteArray.size_append, o1, h2]; omega]
    have e : s = ((((a ++ one 58) ++ b) ++ one 58) ++ c) := by
      show (a ++ one 58) ++ ((b ++ one 58) ++ c) = _
      simp only [ByteArray.append_assoc]
    rw [e]
    exact btm _ _
  · rw [hs]
    have e : s = ((a ++ one 58) ++ b) ++ (one 58 ++ c) := by
      show (a ++ one 58) ++ ((b ++ one 58) ++ c) = _
      simp only [ByteArray.append_assoc]
    have e1 : a.size + 28 - 27 = (a ++ one 58).size := by simp only [ByteArray.size_append, o1]; omega
    have e2 : a.size + 28 - 14 = ((a ++ one 58) ++ b).size := by simp only [ByteArray.size_append, o1, h2]; omega
    rw [e, e1, e2]
    rw [ByteArray.extract_append, ByteArray.extract_append_eq_right rfl (ByteArray.size_append ..)]
    have z : (one 58 ++ c).extract ((a ++ one 58).size - ((a ++ one 58) ++ b).size) (((a ++ one 58) ++ b).size - ((a ++ one 58) ++ b).size) = ByteArray.empty := by
      rw [Nat.sub_self]
      apply ByteArray.ext
      apply Array.ext'
      rw [ex_data]
      simp
    rw [z, ByteArray.append_empty]
  · rw [hs]
    have e : s = (((a ++ one 58) ++ b) ++ one 58) ++ c := by
      show (a ++ one 58) ++ ((b ++ one 58) ++ c) = _
      simp only [ByteArray.append_assoc]
    have e1 : a.size + 28 - 13 = (((a ++ one 58) ++ b) ++ one 58).size := by simp only [ByteArray.size_append, o1, h2]; omega
    rw [e, e1]
    exact ByteArray.extract_append_eq_right rfl (by simp only [ByteArray.size_append, o1, h2, h3])
  · rw [hs]
    have e : s = a ++ (one 58 ++ ((b ++ one 58) ++ c)) := by
      show (a ++ one 58) ++ ((b ++ one 58) ++ c) = _
      simp only [ByteArray.append_assoc]
    rw [e, show a.size + 28 - 28 = a.size by omega]
    exact ByteArray.extract_append_eq_left rfl
theorem rk_same (s : ByteArray) : rkImpl s = rkSpec s := by
  by_cases h : 29 ≤ s.size ∧ bt s ((s.size - 28 : Nat) : Int) = 58 ∧ bt s ((s.size - 14 : Nat) : Int) = 58 ∧ (rw32 (s.extract (s.size - 27) (s.size - 14))).2 = true ∧ (rw32 (s.extract (s.size - 13) s.size)).2 = true ∧ nmOk (s.extract 0 (s.size - 28)) = true
  · have hh := h
    obtain ⟨h1, h2, h3, h4, h5, h6⟩ := h
    have n1 := nm_no _ h6 58 (by decide)
    have n2 := rw_no (s.extract (s.size - 27) (s.size - 14)) (rw32 (s.extract (s.size - 27) (s.size - 14))).1 (by rw [← h4])
    have n3 := rw_no (s.extract (s.size - 13) s.size) (rw32 (s.extract (s.size - 13) s.size)).1 (by rw [← h5])
    have es : s = (s.extract 0 (s.size - 28) ++ one 58) ++ ((s.extract (s.size - 27) (s.size - 14) ++ one 58) ++ s.extract (s.size - 13) s.size) := by
      have c1 := cutAt s 58 (s.size - 28) (by omega) h2
      have hb : bt (s.extract (s.size - 27) s.size) ((13 : Nat) : Int) = 58 := by
        rw [bt_ex s (s.size - 27) 13 (by omega), show s.size - 27 + 13 = s.size - 14 by omega]
        exact h3
      have hz : (s.extract (s.size - 27) s.size).size = 27 := by rw [ByteArray.size_extract]; omega
      have c2 := cutAt (s.extract (s.size - 27) s.size) 58 13 (by omega) hb
      have e1 : (s.extract (s.size - 27) s.size).extract 0 13 = s.extract (s.size - 27) (s.size - 14) := by
        rw [ByteArray.extract_extract]
        have q1 : s.size - 27 + 0 = s.size - 27 := by omega
        have q2 : min (s.size - 27 + 13) s.size = s.size - 14 := by omega
        rw [q1, q2]
      have e2 : (s.extract (s.size - 27) s.size).extract 14 (s.extract (s.size - 27) s.size).size = s.extract (s.size - 13) s.size := by
        rw [hz, ByteArray.extract_extract]
        have q1 : s.size - 27 + 14 = s.size - 13 := by omega
        have q2 : min (s.size - 27 + 27) s.size = s.size := by omega
        rw [q1, q2]
      rw [e1, show 13 + 1 = 14 from rfl, e2] at c2
      rw [show s.size - 28 + 1 = s.size - 27 by omega] at c1
      rw [← c2]
      exact c1
    have ep : spl 58 s = [s.extract 0 (s.size - 28), s.extract (s.size - 27) (s.size - 14), s.extract (s.size - 13) s.size] := by
      conv => lhs; rw [es]
      rw [spl_cons n1, spl_cons n2, spl_none n3]
    unfold rkImpl rkSpec
    rw [ep, if_pos hh]
    simp only
    rw [if_pos ⟨h6, h4, h5⟩]
  · have e2 : rkSpec s = ((⟨#[]⟩ : ByteArray), 0, 0, false) := by unfold rkSpec; rw [if_neg h]
    rw [e2]
    unfold rkImpl
    rcases cutB 58 s with n | ⟨a, t, na, rfl⟩
    · rw [spl_none n]
    rw [spl_cons na]
    rcases cutB 58 t with n | ⟨b, u, nb, rfl⟩
    · rw [spl_none n]
    rw [spl_cons nb]
    rcases cutB 58 u with n | ⟨c, v, nc, rfl⟩
    · rw [spl_none n]
      simp only
      by_cases g : nmOk a = true ∧ (rw32 b).2 = true ∧ (rw32 u).2 = true
      · exfalso
        apply h
        have ha : 1 ≤ a.size := by
          have := g.1
          unfold nmOk at this
          simp only [Bool.and_eq_true, decide_eq_true_eq] at this
          exact this.1.1.1
        have hb := rw_size b (rw32 b).1 (by rw [← g.2.1])
        have hu := rw_size u (rw32 u).1 (by rw [← g.2.2])
        obtain ⟨q1, q2, q3, q4, q5, q6⟩ := three a b u ha hb hu
        exact ⟨by omega, q2, q3, by rw [q4]; exact g.2.1, by rw [q5]; exact g.2.2, by rw [q6]; exact g.1⟩
      · rw [if_neg g]
    · rw [spl_cons nc]
      cases hv : spl 58 v with
      | nil => exact absurd hv (spl_ne 58 v)
      | cons x y => rfl
theorem specRK_ev (s : ByteArray) (hs : s.size ≤ 1048576) : Ev (fun k => spec_ReadKey.f k s) (rkSpec s) := by
  obtain ⟨R, hR⟩ : ∃ R, R = rkSpec s := ⟨_, rfl⟩
  rw [← hR]
  unfold rkSpec at hR
  unfold spec_ReadKey.f
  have bad : Ev (fun k => spec_ReadKey.j0 k s ((s.size : Int) - 28) true) ((⟨#[]⟩ : ByteArray), 0, 0, false) := by
    refine Ev.step ?_
    simp only [spec_ReadKey.j0]
    exact Ev.pos trivial Ev.pure
  have w : wrap64 ((s.size : Int) - 28) = (s.size : Int) - 28 := w64 _ (by omega) (by omega)
  rw [w]
  by_cases c1 : ((s.size : Int) - 28) < 1
  · rw [if_neg (by omega)] at hR
    subst hR
    exact Ev.pos c1 bad
  have e1 : ((s.size - 28 : Nat) : Int) = (s.size : Int) - 28 := by omega
  have e2 : wrap64 (((s.size : Int) - 28) + 14) = (s.size : Int) - 14 := by rw [w64 _ (by omega) (by omega)]; omega
  have e3 : ((s.size - 14 : Nat) : Int) = (s.size : Int) - 14 := by omega
  have e4 : wrap64 (((s.size : Int) - 28) + 1) = (s.size : Int) - 27 := by rw [w64 _ (by omega) (by omega)]; omega
  have e5 : wrap64 (((s.size : Int) - 28) + 15) = (s.size : Int) - 13 := by rw [w64 _ (by omega) (by omega)]; omega
  have t1 : ((s.size : Int) - 27).toNat = s.size - 27 := by omega
  have t2 : ((s.size : Int) - 14).toNat = s.size - 14 := by omega
  have t3 : ((s.size : Int) - 13).toNat = s.size - 13 := by omega
  have t4 : ((s.size : Int) - 28).toNat = s.size - 28 := by omega
  rw [e1, e3] at hR
  rw [e2]
  refine Ev.neg c1 (Ev.pos (by omega) (Ev.pos (by omega) ?_))
  by_cases c2 : bt s ((s.size : Int) - 28) = 58
  · refine Ev.pos c2 (Ev.pos (by omega) (Ev.pos (by omega) ?_))
    by_cases c3 : bt s ((s.size : Int) - 14) = 58
    · have c3' : (bt s ((s.size : Int) - 14) != 58) = false := by simp [c3]
      rw [c3']
      refine Ev.step ?_
      simp only [spec_ReadKey.j0, e4, e5, e2, t1, t2, t3, t4]
      refine Ev.neg (by simp) (Ev.pos (by omega) (Ev.pos (by omega) (Ev.pos (by omega) (Ev.bind (Ev.of 60 (fun k hk => spec_ReadWord32_f _ k hk)) (Ev.pos (by omega) (Ev.pos (by omega) (Ev.bind (Ev.of 60 (fun k hk => spec_ReadWord32_f _ k hk)) ?_)))))))
      by_cases c4 : (rw32 (s.extract (s.size - 27) (s.size - 14))).2 = true
      · refine Ev.pos c4 ?_
        by_cases c5 : (rw32 (s.extract (s.size - 13) s.size)).2 = true
        · refine Ev.pos c5 (Ev.pos (by omega) (Ev.pos (by omega) (Ev.bind (Ev.of 63 (fun k hk => spec_NameOk_f _ k hk)) ?_)))
          by_cases c6 : nmOk (s.extract 0 (s.size - 28)) = true
          · rw [if_pos ⟨by omega, c2, c3, c4, c5, c6⟩] at hR
            subst hR
            exact Ev.pos c6 Ev.pure
          · rw [if_neg (fun h => c6 h.2.2.2.2.2)] at hR
            subst hR
            exact Ev.neg c6 Ev.pure
        · rw [if_neg (fun h => c5 h.2.2.2.2.1)] at hR
          subst hR
          exact Ev.neg c5 Ev.pure
      · rw [if_neg (fun h => c4 h.2.2.2.1)] at hR
        subst hR
        exact Ev.neg c4 Ev.pure
    · have c3' : (bt s ((s.size : Int) - 14) != 58) = true := by simp [c3]
      rw [c3']
      rw [if_neg (fun h => c3 h.2.2.1)] at hR
      subst hR
      exact bad
  · rw [if_neg (fun h => c2 h.2.1)] at hR
    subst hR
    exact Ev.neg c2 bad
theorem implRK_ev (s : ByteArray) (hs : s.size ≤ 1048576) : Ev (fun k => impl_ReadKey.f k s) (rkImpl s) := by
  obtain ⟨R, hR⟩ : ∃ R, R = rkImpl s := ⟨_, rfl⟩
  rw [← hR]
  unfold rkImpl at hR
  unfold impl_ReadKey.f
  have es : strings_Split.f s (⟨#[58]⟩ : ByteArray) = some (spl 58 s) := by
    unfold strings_Split.f
    rw [if_pos ⟨rfl, by omega⟩]
    rfl
  refine Ev.cons es ?_
  have bad : ∀ x : List ByteArray, Ev (fun k => impl_ReadKey.j0 k x true) ((⟨#[]⟩ : ByteArray), 0, 0, false) := by
    intro x
    refine Ev.step ?_
    simp only [impl_ReadKey.j0]
    exact Ev.pos trivial Ev.pure
  generalize spl 58 s = x at hR
  by_cases c : x.length = 3
  · match x, c with
    | [a, b, c], _ =>
      have r0 : rdOf ByteArray.empty [a, b, c] 0 = a := rfl
      have r1 : rdOf ByteArray.empty [a, b, c] 1 = b := rfl
      have r2 : rdOf ByteArray.empty [a, b, c] 2 = c := rfl
      simp only [r0]
      dsimp only at hR
      refine Ev.pos rfl (Ev.pos (by simp) (Ev.bind (Ev.of 63 (fun k hk => impl_NameOk_f _ k hk)) ?_))
      by_cases c1 : nmOk a = true
      · rw [c1]
        refine Ev.step ?_
        simp only [impl_ReadKey.j0, r0, r1, r2]
        refine Ev.neg (by simp) (Ev.pos (by simp) (Ev.bind (Ev.of 60 (fun k hk => impl_ReadWord32_f _ k hk)) (Ev.pos (by simp) (Ev.bind (Ev.of 60 (fun k hk => impl_ReadWord32_f _ k hk)) ?_))))
        by_cases c2 : (rw32 b).2 = true
        · refine Ev.pos c2 ?_
          by_cases c3 : (rw32 c).2 = true
          · rw [if_pos ⟨c1, c2, c3⟩] at hR
            subst hR
            exact Ev.pos c3 (Ev.pos (by simp) Ev.pure)
          · rw [if_neg (fun h => c3 h.2.2)] at hR
            subst hR
            exact Ev.neg c3 Ev.pure
        · rw [if_neg (fun h => c2 h.2.1)] at hR
          subst hR
          exact Ev.neg c2 Ev.pure
      · have c1' : nmOk a = false := by simpa using c1
        rw [c1']
        rw [if_neg (fun h => c1 h.1)] at hR
        subst hR
        exact bad _
  · have hb : R = ((⟨#[]⟩ : ByteArray), (0 : Int), (0 : Int), false) := by
      match x, c, hR with
      | [], _, hR => exact hR
      | [_], _, hR => exact hR
      | [_, _], _, hR => exact hR
      | [_, _, _], h, _ => exact absurd rfl h
      | _ :: _ :: _ :: _ :: _, _, hR => exact hR
    subst hb
    exact Ev.neg (by omega) (bad x)
theorem FnExactReadKey : laws_FnExactReadKey.Pure := by
  intro s hs
  refine Ev.at ?_
  unfold laws_FnExactReadKey.f
  by_cases c : (s.size : Int) > 1048576
  · exact Ev.pos c Ev.pure
  have h1 := specRK_ev s (by omega)
  have h2 := implRK_ev s (by omega)
  rw [rk_same] at h2
  refine Ev.neg c (Ev.bind h1 (Ev.bind h2 ?_))
  unfold laws_eqTrust.f
  rw [if_pos rfl, if_pos rfl, if_pos rfl]
  exact Ev.cons rfl (Ev.pos rfl (Ev.neg (by simp) Ev.pure))

end Go.Proofs.YtklinldidfdnjaaDoor.Pure
