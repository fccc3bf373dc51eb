/- The pure statement of FnExactSwitch: the same profile is switched or made; the answer holds its own marks. -/
import Derived.Test.YtbgnjnlecpdfaaaPFnExactSwitchx0
import Derived.Test.YtbgnjnlecpdfaaaPFnExactSwitchx1
import Derived.Test.YtbgnjnlecpdfaaaPFnExactSwitchx10
import Derived.Test.YtbgnjnlecpdfaaaPFnExactSwitchx11
import Derived.Test.YtbgnjnlecpdfaaaPFnExactSwitchx12
import Derived.Test.YtbgnjnlecpdfaaaPFnExactSwitchx13
import Derived.Test.YtbgnjnlecpdfaaaPFnExactSwitchx2
import Derived.Test.YtbgnjnlecpdfaaaPFnExactSwitchx3
import Derived.Test.YtbgnjnlecpdfaaaPFnExactSwitchx4
import Derived.Test.YtbgnjnlecpdfaaaPFnExactSwitchx5
import Derived.Test.YtbgnjnlecpdfaaaPFnExactSwitchx6
import Derived.Test.YtbgnjnlecpdfaaaPFnExactSwitchx7
import Derived.Test.YtbgnjnlecpdfaaaPFnExactSwitchx8
import Derived.Test.YtbgnjnlecpdfaaaPFnExactSwitchx9
import Derived.Laws.BitsLemmas
import Derived.Laws.Bits64b
import Derived.Lib.Bytealg
namespace Go.Proofs.Ytbgnjnlecpdfaaa.Pure
open Go.RowKit Go.Proofs.YtbgnjnlecpdfaaaW.PrintWords Go.Proofs.YtbgnjnlecpdfaaaW.PrintLast Go.Proofs.YtbgnjnlecpdfaaaW.PrintMore Go.Proofs.Ytbgnjnlecpdfaaa.PFnExactSwitch

theorem u64w (n : Int) (h0 : 0 ≤ n) (h1 : n < 18446744073709551616) : IntKind.u64.wrap n = n := by
  simp [IntKind.wrap, IntKind.signed, IntKind.bits]; omega
theorem i64w (n : Int) (h0 : -9223372036854775808 ≤ n) (h1 : n < 9223372036854775808) : IntKind.i64.wrap n = n := by
  rw [IntKind.wrap_i64]; omega
theorem w64 (n : Int) (h0 : -9223372036854775808 ≤ n) (h1 : n < 9223372036854775808) : wrap64 n = n := by unfold wrap64; omega
theorem up1 (i : Int) (h0 : 0 ≤ i) (h : i < 9223372036854775807) : wrap64 (i + 1) = i + 1 := by unfold wrap64; omega
theorem u64_lo (n : Int) : 0 ≤ IntKind.u64.wrap n := by simp [IntKind.wrap, IntKind.signed, IntKind.bits]; omega
theorem u64_hi (n : Int) : IntKind.u64.wrap n < 18446744073709551616 := by simp [IntKind.wrap, IntKind.signed, IntKind.bits]; omega
theorem u64_wf (x : Int) (h : (Lit.int .u64 x).wf = true) : 0 ≤ x ∧ x < 18446744073709551616 := by
  simp [Lit.wf, IntKind.min, IntKind.max, IntKind.signed, IntKind.bits] at h; omega
theorem and31 (x : Int) (h0 : 0 ≤ x) (h1 : x < 18446744073709551616) : Go.bits .and .u64 x 31 = x % 32 := by
  have := bits_mask .u64 64 (by decide) (fun n a b => u64w n a (by simpa using b)) 5 (by decide) x h0 (by simpa using h1)
  simpa using this
theorem or5 (a c : Int) (h0 : 0 ≤ a) (h1 : a * 32 < 18446744073709551616) (hc0 : 0 ≤ c) (hc : c < 32) : Go.bits .or .u64 (a * 32) c = a * 32 + c := by
  have := bits_join .u64 64 (by decide) (fun n x y => u64w n x (by simpa using y)) 5 (a * 32) c (by omega) (by omega) (by simpa using h1) hc0 (by simpa using hc) (by simp; omega)
  exact this
theorem bt_list (l : List UInt8) (i : Int) : bt ⟨l.toArray⟩ i = ((l.getD i.toNat 0).toNat : Int) := by
  unfold bt
  split
  · rename_i h
    have h' : i.toNat < l.length := by simpa [ByteArray.size] using h
    rw [List.getD_eq_getElem?_getD, List.getElem?_eq_getElem h']
    rfl
  · rename_i h
    have h' : l.length ≤ i.toNat := by simpa [ByteArray.size] using h
    rw [List.getD_eq_getElem?_getD, List.getElem?_eq_none h']; rfl
/-- The alphabet of chapter 1. -/
def alpha : ByteArray := ⟨#[48, 49, 50, 51, 52, 53, 54, 55, 56, 57, 97, 98, 99, 100, 102, 103, 104, 105, 106, 107, 108, 109, 110, 112, 113, 114, 115, 118, 119, 120, 121, 122]⟩
/-- The n-th digit from the right, as its byte. -/
def dg (x : Int) (n : Nat) : Int := bt alpha (x / 2 ^ (5 * n) % 32)
/-- The last n digits. -/
def ds (x : Int) : Nat → List Int
  | 0 => []
  | n + 1 => dg x n :: ds x n
theorem ds_length (x : Int) : ∀ n, (ds x n).length = n
  | 0 => rfl
  | n + 1 => by simp [ds, ds_length x n]
/-- The thirteen bytes. -/
def word (x : Int) : ByteArray := strOfNums (ds x 13)
theorem div_lo (x : Int) (h0 : 0 ≤ x) (n : Nat) : 0 ≤ x / 2 ^ n := Int.ediv_nonneg h0 (by have := Nat.two_pow_pos n; exact_mod_cast Nat.zero_le _)
theorem div_hi (x : Int) (h0 : 0 ≤ x) (n : Nat) : x / 2 ^ n ≤ x := Int.ediv_le_self _ h0
theorem shr5 (x : Int) (n : Nat) (hn : n ≤ 12) : shr .u64 x (5 * n) = x / 2 ^ (5 * n) := by
  unfold shr
  have e : (5 * (n : Int)).toNat = 5 * n := by omega
  rw [e, Nat.min_eq_left (by simp [IntKind.bits]; omega)]
/-- What a byte is worth as a digit; -1: it is none. -/
def dv (c : Int) : Int := Lib.indexByte alpha.data.toList c.toNat.toUInt8
theorem dv_all : ∀ c : Fin 256, -1 ≤ dv (c.val : Int) ∧ dv (c.val : Int) < 32 := by decide +kernel
theorem dv_bounds (c : Int) (h0 : 0 ≤ c) (h1 : c ≤ 255) : -1 ≤ dv c ∧ dv c < 32 := by
  have := dv_all ⟨c.toNat, by omega⟩
  simpa [Int.toNat_of_nonneg h0] using this
/-- The number that thirteen digits tell, from the i-th on. -/
def rwGo (s : ByteArray) : Nat → Int → Nat → Int × Bool
  | 0, x, _ => (x, true)
  | d + 1, x, i => if dv (bt s i) < 0 then (0, false) else if i = 0 ∧ dv (bt s i) > 15 then (0, false) else rwGo s d (x * 32 + dv (bt s i)) (i + 1)
def rw32 (s : ByteArray) : Int × Bool := if s.size = 13 then rwGo s 13 0 0 else (0, false)
/-- The bound that the digits so far keep. -/
def lim (d : Nat) : Int := if d = 13 then 1 else 2 ^ (64 - 5 * d)
theorem lim_all : ∀ d : Fin 13, lim d.val ≤ 18446744073709551616 ∧ 0 < lim d.val ∧ (d.val < 12 → lim (d.val + 1) * 32 = lim d.val) ∧ (d.val = 12 → lim d.val = 16) ∧ lim (d.val + 1) * 32 ≤ 18446744073709551616 := by decide +kernel
theorem word_size (x : Int) : (word x).size = 13 := by unfold word; rw [strOfNums_size, ds_length]

-- Ev
/-- With fuel enough the run answers r. -/
def Ev {α : Type} (f : Nat → Option α) (r : α) : Prop := ∃ K, ∀ k, K ≤ k → f k = some r
theorem Ev.pure {α : Type} {r : α} : Ev (fun _ => some r) r := ⟨0, fun _ _ => rfl⟩
theorem Ev.of {α : Type} {f : Nat → Option α} {r : α} (N : Nat) (h : ∀ k, N ≤ k → f k = some r) : Ev f r := ⟨N, h⟩
theorem Ev.step {α : Type} {f : Nat → Option α} {r : α} (h : Ev (fun k => f (k + 1)) r) : Ev f r := by
  obtain ⟨K, h⟩ := h
  refine ⟨K + 1, fun k hk => ?_⟩
  obtain ⟨m, rfl⟩ : ∃ m, k = m + 1 := ⟨k - 1, by omega⟩
  exact h m (by omega)
theorem Ev.bind {α β : Type} {f : Nat → Option α} {g : Nat → α → Option β} {a : α} {r : β} (h : Ev f a) (h2 : Ev (fun k => g k a) r) : Ev (fun k => (f k).bind (g k)) r := by
  obtain ⟨K, h⟩ := h
  obtain ⟨K2, h2⟩ := h2
  refine ⟨K + K2, fun k hk => ?_⟩
  show (f k).bind (g k) = some r
  rw [h k (by omega)]
  exact h2 k (by omega)
theorem Ev.cons {α β : Type} {x : Option α} {g : Nat → α → Option β} {a : α} {r : β} (h : x = some a) (h2 : Ev (fun k => g k a) r) : Ev (fun k => x.bind (g k)) r := by
  subst h
  exact h2
theorem Ev.pos {α : Type} {c : Prop} [Decidable c] {f g : Nat → Option α} {r : α} (hc : c) (h : Ev f r) : Ev (fun k => if c then f k else g k) r := by
  simpa only [if_pos hc] using h
theorem Ev.neg {α : Type} {c : Prop} [Decidable c] {f g : Nat → Option α} {r : α} (hc : ¬ c) (h : Ev g r) : Ev (fun k => if c then f k else g k) r := by
  simpa only [if_neg hc] using h
theorem Ev.at {α : Type} {f : Nat → Option α} {r : α} (h : Ev f r) : ∃ k, f k = some r := by
  obtain ⟨K, h⟩ := h
  exact ⟨K, h K (Nat.le_refl _)⟩
theorem Ev.uniq {α : Type} {f : Nat → Option α} {r s : α} (h : Ev f r) (h2 : Ev f s) : r = s := by
  obtain ⟨K, h⟩ := h
  obtain ⟨K2, h2⟩ := h2
  have a := h (K + K2) (by omega)
  have b := h2 (K + K2) (by omega)
  rw [a] at b
  exact Option.some.inj b
/-- From the end down. -/
theorem downTo (n : Nat) (P : Nat → Prop) (base : P n) (step : ∀ i, i < n → P (i + 1) → P i) : ∀ i, i ≤ n → P i := by
  intro i hi
  obtain ⟨d, rfl⟩ : ∃ d, i = n - d := ⟨n - i, by omega⟩
  clear hi
  induction d with
  | zero => exact base
  | succ d ih =>
    by_cases h : d < n
    · refine step _ (by omega) ?_
      have e : n - (d + 1) + 1 = n - d := by omega
      rw [e]; exact ih
    · have e : n - (d + 1) = n - d := by omega
      rw [e]; exact ih
theorem upN (i : Nat) (h : i < 1000000000000000) : wrap64 ((i : Int) + 1) = ((i + 1 : Nat) : Int) := by unfold wrap64; omega
theorem dnN (i : Nat) (h : i < 1000000000000000) (h0 : 0 < i) : wrap64 ((i : Int) - 1) = ((i - 1 : Nat) : Int) := by unfold wrap64; omega
/-- A loop that sets place by place leaves the row's picture. -/
theorem setLoop {A B : Type} (L : Nat → List B → Int → Option (List B)) (x : List A) (c : A → B)
    (step : ∀ (i : Nat) (y : List B) (r : List B) (h : i < x.length), y.length = x.length → Ev (fun k => L k (y.set i (c x[i])) ((i + 1 : Nat) : Int)) r → Ev (fun k => L k y (i : Int)) r)
    (stop : ∀ y : List B, y.length = x.length → Ev (fun k => L k y ((x.length : Nat) : Int)) y) :
    ∀ y : List B, y.length = x.length → Ev (fun k => L k y 0) (x.map c) := by
  have main := downTo x.length (fun i => ∀ y : List B, y.length = x.length → y.take i = (x.map c).take i → Ev (fun k => L k y (i : Int)) (x.map c)) ?_ ?_
  · intro y hy
    exact main 0 (by omega) y hy (by simp)
  · intro y hy he
    rw [List.take_of_length_le (by omega), List.take_of_length_le (by simp)] at he
    have := stop y hy
    rw [he] at this
    rw [he] at hy
    exact he ▸ stop y (by rw [he]; exact hy)
  · intro i hi ih y hy he
    refine step i y _ hi hy (ih _ (by simp [hy]) ?_)
    rw [List.take_add_one, List.take_add_one, List.take_set_of_le (by omega), he, List.getElem?_set_self (by omega)]
    simp [List.getElem?_eq_getElem hi]
theorem countLoop {α : Type} (L : Nat → Int → Option α) (n : Nat) (r : α) (step : ∀ i : Nat, i < n → Ev (fun k => L k ((i + 1 : Nat) : Int)) r → Ev (fun k => L k (i : Int)) r) (stop : Ev (fun k => L k ((n : Nat) : Int)) r) : Ev (fun k => L k 0) r :=
  downTo n (fun i => Ev (fun k => L k (i : Int)) r) stop (fun i hi h => step i hi h) 0 (by omega)

-- NameOk
def nmByte (c : Int) : Bool := (decide (97 ≤ c) && decide (c ≤ 122)) || (decide (65 ≤ c) && decide (c ≤ 90)) || (decide (48 ≤ c) && decide (c ≤ 57)) || c == 45 || c == 95 || c == 46 || c == 43
/-- Are n bytes from the i-th on those of a name? -/
def nmGo (s : ByteArray) : Nat → Nat → Bool
  | 0, _ => true
  | d + 1, i => nmByte (bt s i) && nmGo s d (i + 1)
/-- A name. -/
def nmOk (s : ByteArray) : Bool := decide (1 ≤ s.size) && decide (s.size ≤ 60) && !(bt s 0 == 46) && nmGo s s.size 0
theorem l1Letter_f (c : Int) : spec_l1Letter.f c = some ((decide (97 ≤ c) && decide (c ≤ 122)) || (decide (65 ≤ c) && decide (c ≤ 90))) := by
  unfold spec_l1Letter.f
  by_cases h1 : 97 ≤ c <;> by_cases h2 : c ≤ 122 <;> by_cases h3 : 65 ≤ c <;> by_cases h4 : c ≤ 90 <;> simp [h1, h2, h3, h4] <;> omega
theorem l1Digit_f (c : Int) : spec_l1Digit.f c = some (decide (48 ≤ c) && decide (c ≤ 57)) := by
  unfold spec_l1Digit.f
  by_cases h1 : 48 ≤ c <;> by_cases h2 : c ≤ 57 <;> simp [h1, h2]
theorem letter_f (c : Int) : impl_letter.f c = some ((decide (97 ≤ c) && decide (c ≤ 122)) || (decide (65 ≤ c) && decide (c ≤ 90))) := by
  unfold impl_letter.f
  by_cases h1 : 97 ≤ c <;> by_cases h2 : c ≤ 122 <;> by_cases h3 : 65 ≤ c <;> by_cases h4 : c ≤ 90 <;> simp [h1, h2, h3, h4] <;> omega
theorem digit_f (c : Int) : impl_digit.f c = some (decide (48 ≤ c) && decide (c ≤ 57)) := by
  unfold impl_digit.f
  by_cases h1 : 48 ≤ c <;> by_cases h2 : c ≤ 57 <;> simp [h1, h2]
theorem spec_NameOk_loop (s : ByteArray) (hs : s.size ≤ 60) : ∀ (d i k : Nat), i + d = s.size → d < k → spec_NameOk.l0 k s (i : Int) = some (nmGo s d i) := by
  intro d
  induction d with
  | zero =>
    intro i k hi hk
    obtain ⟨k, rfl⟩ : ∃ m, k = m + 1 := ⟨k - 1, by omega⟩
    simp only [spec_NameOk.l0]; rw [if_neg (by omega)]; rfl
  | succ d ih =>
    intro i k hi hk
    obtain ⟨k, rfl⟩ : ∃ m, k = m + 1 := ⟨k - 1, by omega⟩
    have e3 : wrap64 ((i : Int) + 1) = ((i + 1 : Nat) : Int) := by rw [up1 _ (by omega) (by omega)]; omega
    simp only [spec_NameOk.l0, nmGo, nmByte]
    rw [if_pos (by omega), if_pos (by omega), l1Letter_f, l1Digit_f, e3, ih (i + 1) k (by omega) (by omega)]
    simp only [Option.bind_some]
    generalize bt s (i : Int) = c
    generalize nmGo s d (i + 1) = g
    generalize ((decide (97 ≤ c) && decide (c ≤ 122)) || (decide (65 ≤ c) && decide (c ≤ 90))) = p
    generalize (decide (48 ≤ c) && decide (c ≤ 57)) = q
    cases p <;> cases q <;> simp
    by_cases h1 : c = 45
    · simp [h1]
    · by_cases h2 : c = 95
      · simp [h2]
      · by_cases h3 : c = 46
        · simp [h3]
        · by_cases h4 : c = 43
          · simp [h4]
          · simp [h1, h2, h3, h4]
theorem spec_NameOk_f (s : ByteArray) (k : Nat) (hk : 63 ≤ k) : spec_NameOk.f k s = some (nmOk s) := by
  obtain ⟨k, rfl⟩ : ∃ m, k = m + 1 := ⟨k - 1, by omega⟩
  unfold spec_NameOk.f nmOk
  simp only [spec_NameOk.j0]
  by_cases h1 : (s.size : Int) < 1
  · rw [if_pos h1]
    have : ¬ 1 ≤ s.size := by omega
    simp [this]
  · rw [if_neg h1]
    have e1 : 1 ≤ s.size := by omega
    by_cases h2 : (s.size : Int) > 60
    · rw [if_pos h2]
      have : ¬ s.size ≤ 60 := by omega
      simp [this]
    · rw [if_neg h2, if_pos (by omega)]
      have e2 : s.size ≤ 60 := by omega
      have h := spec_NameOk_loop s e2 s.size 0 k (by omega) (by omega)
      rw [show ((0 : Nat) : Int) = 0 from rfl] at h
      rw [h]
      by_cases h3 : bt s 0 = 46
      · simp [h3]
      · simp [h3, e1, e2]
theorem w32_byte (s : ByteArray) (i : Int) : wrap32 (bt s i) = bt s i := by
  have := bt_range s i
  unfold wrap32; omega
theorem impl_NameOk_loop (s : ByteArray) (hs : s.size ≤ 60) : ∀ (d i k : Nat), i + d = s.size → d < k → impl_NameOk.l0 k s (s.size : Int) (i : Int) = some (nmGo s d i) := by
  intro d
  induction d with
  | zero =>
    intro i k hi hk
    obtain ⟨k, rfl⟩ : ∃ m, k = m + 1 := ⟨k - 1, by omega⟩
    simp only [impl_NameOk.l0]; rw [if_neg (by omega)]; rfl
  | succ d ih =>
    intro i k hi hk
    obtain ⟨k, rfl⟩ : ∃ m, k = m + 1 := ⟨k - 1, by omega⟩
    have e3 : wrap64 ((i : Int) + 1) = ((i + 1 : Nat) : Int) := by rw [up1 _ (by omega) (by omega)]; omega
    have hb := bt_range s (i : Int)
    have e4 : strings_ContainsRune.f (⟨#[45, 95, 46, 43]⟩ : ByteArray) (bt s (i : Int)) = some (bt s (i : Int) == 45 || bt s (i : Int) == 95 || bt s (i : Int) == 46 || bt s (i : Int) == 43) := by
      unfold strings_ContainsRune.f
      rw [if_pos (by rw [Lib.toList_data]), if_pos (by omega)]
    simp only [impl_NameOk.l0, nmGo, nmByte]
    rw [if_pos (by omega), if_pos (by omega), if_pos (by omega), letter_f, digit_f, w32_byte, e4, e3, ih (i + 1) k (by omega) (by omega)]
    simp only [Option.bind_some]
    generalize bt s (i : Int) = c
    generalize nmGo s d (i + 1) = g
    generalize ((decide (97 ≤ c) && decide (c ≤ 122)) || (decide (65 ≤ c) && decide (c ≤ 90))) = p
    generalize (decide (48 ≤ c) && decide (c ≤ 57)) = q
    generalize (c == 45) = r1
    generalize (c == 95) = r2
    generalize (c == 46) = r3
    generalize (c == 43) = r4
    cases p <;> cases q <;> cases r1 <;> cases r2 <;> cases r3 <;> cases r4 <;> simp
theorem impl_NameOk_f (s : ByteArray) (k : Nat) (hk : 63 ≤ k) : impl_NameOk.f k s = some (nmOk s) := by
  obtain ⟨k, rfl⟩ : ∃ m, k = m + 1 := ⟨k - 1, by omega⟩
  unfold impl_NameOk.f nmOk
  simp only [impl_NameOk.j0]
  by_cases h1 : (s.size : Int) < 1
  · rw [if_pos h1]
    have : ¬ 1 ≤ s.size := by omega
    simp [this]
  · rw [if_neg h1]
    have e1 : 1 ≤ s.size := by omega
    by_cases h2 : (s.size : Int) > 60
    · rw [if_pos h2]
      have : ¬ s.size ≤ 60 := by omega
      simp [this]
    · rw [if_neg h2, if_pos (by omega)]
      have e2 : s.size ≤ 60 := by omega
      have h := impl_NameOk_loop s e2 s.size 0 k (by omega) (by omega)
      rw [show ((0 : Nat) : Int) = 0 from rfl] at h
      rw [h]
      by_cases h3 : bt s 0 = 46
      · simp [h3]
      · simp [h3, e1, e2]

-- ReadWord32
theorem l1Index_all : ∀ c : Fin 256, spec_l1Index.f 40 (c.val : Int) = some (dv (c.val : Int)) := by decide +kernel
theorem l1Index_f (c : Int) (h0 : 0 ≤ c) (h1 : c ≤ 255) (k : Nat) (hk : 40 ≤ k) : spec_l1Index.f k c = some (dv c) := by
  have := l1Index_all ⟨c.toNat, by omega⟩
  simp only [Int.toNat_of_nonneg h0] at this
  exact at_rounds (g := fun k => spec_l1Index.f k c) (fun k => spec_l1Index.mono c k) hk this
theorem rw_both (s : ByteArray) (hs : s.size = 13) : ∀ (d i : Nat) (x : Int) (k : Nat), i + d = 13 → 0 ≤ x → x < lim d → d + 41 < k →
    spec_ReadWord32.l0 k s x (i : Int) = some (rwGo s d x i) ∧ impl_ReadWord32.l0 k s x (s.size : Int) (i : Int) = some (rwGo s d x i) := by
  intro d
  induction d with
  | zero =>
    intro i x k hi hx hl hk
    obtain ⟨k, rfl⟩ : ∃ m, k = m + 1 := ⟨k - 1, by omega⟩
    constructor
    · simp only [spec_ReadWord32.l0]; rw [if_neg (by omega)]; rfl
    · simp only [impl_ReadWord32.l0]; rw [if_neg (by omega)]; rfl
  | succ d ih =>
    intro i x k hi hx hl hk
    obtain ⟨k, rfl⟩ : ∃ m, k = m + 1 := ⟨k - 1, by omega⟩
    obtain ⟨b0, b1⟩ := bt_range s (i : Int)
    obtain ⟨t0, t1⟩ := dv_bounds (bt s (i : Int)) b0 b1
    have hf := l1Index_f (bt s (i : Int)) b0 b1 k (by omega)
    have hg : strings_IndexByte.f alpha (bt s (i : Int)) = some (dv (bt s (i : Int))) := rfl
    unfold alpha at hg
    have e3 : ((i : Int) + 1) = ((i + 1 : Nat) : Int) := by omega
    obtain ⟨m0, m1, m2, m3, m4⟩ := lim_all ⟨d, by omega⟩
    simp only at m0 m1 m2 m3 m4
    constructor
    · simp only [spec_ReadWord32.l0, rwGo]
      rw [if_pos (by omega), if_pos (by omega), if_pos (by omega), hf]
      simp only [Option.bind_some]
      by_cases h1 : dv (bt s (i : Int)) < 0
      · rw [if_pos h1, if_pos h1]
      · have e4 : IntKind.u64.wrap (IntKind.u64.wrap (x * 32) + IntKind.u64.wrap (dv (bt s (i : Int)))) = x * 32 + dv (bt s (i : Int)) := by
          rw [u64w (x * 32) (by omega) (by omega), u64w (dv _) (by omega) (by omega)]
          by_cases hd : d = 12
          · subst hd
            have hx0 : x = 0 := by simp [lim] at hl; omega
            subst hx0
            exact u64w _ (by omega) (by omega)
          · have := m2 (by omega)
            exact u64w _ (by omega) (by omega)
        rw [if_neg h1, if_neg h1, e4, up1 _ (by omega) (by omega), e3]
        by_cases h0 : i = 0
        · subst h0
          rw [if_pos (by omega)]
          by_cases h2 : dv (bt s ((0 : Nat) : Int)) > 15
          · rw [if_pos h2, if_pos ⟨rfl, h2⟩]
          · have hx0 : x = 0 := by
              have : d = 12 := by omega
              subst this; simp [lim] at hl; omega
            have := m3 (by omega)
            rw [if_neg h2, if_neg (by rintro ⟨_, h⟩; exact h2 h)]
            exact (ih _ _ k (by omega) (by omega) (by omega) (by omega)).1
        · have := m2 (by omega)
          rw [if_neg (by omega), if_neg (by rintro ⟨h, _⟩; exact h0 h)]
          exact (ih _ _ k (by omega) (by omega) (by omega) (by omega)).1
    · simp only [impl_ReadWord32.l0, rwGo]
      rw [if_pos (by omega), if_pos (by omega), if_pos (by omega), hg]
      simp only [Option.bind_some]
      by_cases h1 : dv (bt s (i : Int)) < 0
      · rw [if_pos h1, if_pos h1]
      · have e4 : Go.bits .or .u64 (IntKind.u64.wrap (x * 32)) (IntKind.u64.wrap (dv (bt s (i : Int)))) = x * 32 + dv (bt s (i : Int)) := by
          rw [u64w (dv _) (by omega) (by omega)]
          by_cases hd : d = 12
          · subst hd
            have hx0 : x = 0 := by simp [lim] at hl; omega
            subst hx0
            rw [u64w (0 * 32) (by omega) (by omega)]
            exact or5 0 _ (by omega) (by omega) (by omega) (by omega)
          · have := m2 (by omega)
            rw [u64w (x * 32) (by omega) (by omega)]
            exact or5 x _ (by omega) (by omega) (by omega) (by omega)
        rw [if_neg h1, if_neg h1, e4, up1 _ (by omega) (by omega), e3]
        by_cases h0 : i = 0
        · subst h0
          rw [if_pos (by omega)]
          by_cases h2 : dv (bt s ((0 : Nat) : Int)) > 15
          · rw [if_pos h2, if_pos ⟨rfl, h2⟩]
          · have hx0 : x = 0 := by
              have : d = 12 := by omega
              subst this; simp [lim] at hl; omega
            have := m3 (by omega)
            rw [if_neg h2, if_neg (by rintro ⟨_, h⟩; exact h2 h)]
            exact (ih _ _ k (by omega) (by omega) (by omega) (by omega)).2
        · have := m2 (by omega)
          rw [if_neg (by omega), if_neg (by rintro ⟨h, _⟩; exact h0 h)]
          exact (ih _ _ k (by omega) (by omega) (by omega) (by omega)).2
theorem spec_ReadWord32_f (s : ByteArray) (k : Nat) (hk : 60 ≤ k) : spec_ReadWord32.f k s = some (rw32 s) := by
  unfold spec_ReadWord32.f rw32
  by_cases h : s.size = 13
  · rw [if_pos (by omega), if_pos h]
    exact (rw_both s h 13 0 0 k (by omega) (by omega) (by decide) (by omega)).1
  · rw [if_neg (by omega), if_neg h]
theorem impl_ReadWord32_f (s : ByteArray) (k : Nat) (hk : 60 ≤ k) : impl_ReadWord32.f k s = some (rw32 s) := by
  unfold impl_ReadWord32.f rw32
  by_cases h : s.size = 13
  · rw [if_pos (by omega), if_pos h]
    exact (rw_both s h 13 0 0 k (by omega) (by omega) (by decide) (by omega)).2
  · rw [if_neg (by omega), if_neg h]

-- AddrI
def adOk (s : ByteArray) : Bool := decide (15 ≤ s.size) && bt s 13 == 45 && (rw32 (s.extract 0 13)).2 && nmOk (s.extract 14 s.size)
theorem nm_empty (s : ByteArray) (h : s.size = 0) : nmOk s = false := by simp [nmOk, h]
theorem impl_AddressOk_f (s : ByteArray) (k : Nat) (hk : 64 ≤ k) : impl_AddressOk.f k s = some (adOk s) := by
  unfold impl_AddressOk.f adOk
  by_cases h1 : (s.size : Int) < 14
  · rw [if_pos h1]
    have : ¬ 15 ≤ s.size := by omega
    simp [this]
  · rw [if_neg h1, if_pos (by omega)]
    by_cases h2 : bt s 13 = 45
    · rw [if_pos h2, if_pos (by omega), impl_NameOk_f _ k (by omega), impl_ReadWord32_f _ k (by omega)]
      simp only [Option.bind_some]
      by_cases h4 : nmOk (s.extract 14 s.size) = true
      · have e1 : 15 ≤ s.size := by
          rcases Nat.lt_or_ge s.size 15 with h | h
          · have e : s.size = 14 := by omega
            rw [nm_empty _ (by simp [ByteArray.size_extract]; omega)] at h4
            exact absurd h4 (by decide)
          · exact h
        rw [if_pos h4, if_pos (by omega), if_pos (by omega)]; simp [h2, h4, e1]
      · rw [if_neg h4]; simp [h4]
    · rw [if_neg h2]; simp [h2]

-- AddressOk
theorem spec_AddressOk_f (s : ByteArray) (k : Nat) (hk : 64 ≤ k) : spec_AddressOk.f k s = some (adOk s) := by
  obtain ⟨k, rfl⟩ : ∃ m, k = m + 1 := ⟨k - 1, by omega⟩
  unfold spec_AddressOk.f adOk
  simp only [spec_AddressOk.j0]
  by_cases h1 : (s.size : Int) < 15
  · rw [if_pos h1]
    have : ¬ 15 ≤ s.size := by omega
    simp [this]
  · rw [if_neg h1, if_pos (by omega)]
    have e1 : 15 ≤ s.size := by omega
    by_cases h2 : bt s 13 = 45
    · have h3 : (bt s 13 != 45) = false := by simp [h2]
      rw [h3, if_neg (by decide), if_pos (by omega), if_pos (by omega), spec_ReadWord32_f _ k (by omega)]
      simp only [Option.bind_some]
      rw [spec_NameOk_f _ k (by omega)]
      by_cases h4 : (rw32 (s.extract 0 13)).2 = true
      · rw [if_pos h4, if_pos (by omega)]; simp [h2, h4, e1]
      · rw [if_neg h4]; simp [h4]
    · have h3 : (bt s 13 != 45) = true := by simp [h2]
      rw [h3, if_pos rfl]; simp [h2]

-- Profiles
def cGen (g : S87) : S56 := ⟨g.f0, g.f1⟩
def cProfile (p : S49) : S52 := ⟨p.f0, p.f1, p.f2.map cGen⟩
theorem rd87 (l : List S87) (i : Nat) (h : i < l.length) : rd_T87 l (i : Int) = l[i] := by unfold rd_T87; simp [List.getD_eq_getElem?_getD, List.getElem?_eq_getElem h]
theorem rd49 (l : List S49) (i : Nat) (h : i < l.length) : rd_T49 l (i : Int) = l[i] := by unfold rd_T49; simp [List.getD_eq_getElem?_getD, List.getElem?_eq_getElem h]
theorem rd56 (l : List S56) (i : Nat) (h : i < l.length) : rd_T56 l (i : Int) = l[i] := by unfold rd_T56; simp [List.getD_eq_getElem?_getD, List.getElem?_eq_getElem h]
theorem rd52 (l : List S52) (i : Nat) (h : i < l.length) : rd_T52 l (i : Int) = l[i] := by unfold rd_T52; simp [List.getD_eq_getElem?_getD, List.getElem?_eq_getElem h]
theorem szGen_f (a : Int) (s : ByteArray) (m : Int) (h0 : 0 ≤ m) (h1 : m ≤ 1048576) (hs : s.size ≤ 9223372036854775807) : ∃ t, laws_szGen.f a s m = some t ∧ (0 ≤ t → t ≤ m) ∧ t ≤ 1048576 := by
  unfold laws_szGen.f
  rw [w64 _ (by omega) (by omega)]
  by_cases h : m - (s.size : Int) < 0
  · rw [if_pos h]; exact ⟨_, rfl, by omega, by omega⟩
  · rw [if_neg h]; exact ⟨_, rfl, by omega, by omega⟩
theorem szGenS_ev (x : List S87) (hx : x.length ≤ 9223372036854775807) (m : Int) (h0 : 0 ≤ m) (h1 : m ≤ 1048576) (ok : ∀ g ∈ x, g.f1.size ≤ 9223372036854775807) : ∃ t, Ev (fun k => laws_szGenS.f k x m) t ∧ (0 ≤ t → t ≤ m ∧ x.length ≤ 1048576) ∧ t ≤ 1048576 := by
  unfold laws_szGenS.f
  rw [w64 _ (by omega) (by omega)]
  by_cases h : m - (x.length : Int) < 0
  · exact ⟨_, Ev.pos h Ev.pure, by omega, by omega⟩
  · have key := downTo x.length (fun i => ∀ a : Int, 0 ≤ a → a ≤ 1048576 → ∃ t, Ev (fun k => laws_szGenS.l0 k x a (i : Int)) t ∧ (0 ≤ t → t ≤ a) ∧ t ≤ 1048576) ?_ ?_ 0 (by omega)
    · obtain ⟨t, a, b, c⟩ := key (m - (x.length : Int)) (by omega) (by omega)
      exact ⟨t, Ev.neg h a, by omega, c⟩
    · intro a a0 a1
      refine ⟨a, Ev.step ?_, by omega, a1⟩
      simp only [laws_szGenS.l0]
      exact Ev.neg (by omega) Ev.pure
    · intro i hi ih a a0 a1
      obtain ⟨t, ht, hm, hn⟩ := szGen_f (x[i]).f0 (x[i]).f1 a a0 a1 (ok _ (List.getElem_mem hi))
      by_cases h2 : t < 0
      · refine ⟨-1, Ev.step ?_, by omega, by omega⟩
        simp only [laws_szGenS.l0, rd87 x i hi]
        exact Ev.pos (by omega) (Ev.pos (by omega) (Ev.cons ht (Ev.pos h2 Ev.pure)))
      · obtain ⟨r, hr, hr2, hr3⟩ := ih t (by omega) (by omega)
        refine ⟨r, Ev.step ?_, by omega, by omega⟩
        simp only [laws_szGenS.l0, rd87 x i hi, upN i (by omega)]
        exact Ev.pos (by omega) (Ev.pos (by omega) (Ev.cons ht (Ev.neg h2 hr)))
theorem szProfile_ev (a : ByteArray) (b : Int) (x : List S87) (ha : a.size ≤ 9223372036854775807) (hx : x.length ≤ 9223372036854775807) (m : Int) (h0 : 0 ≤ m) (h1 : m ≤ 1048576) (ok : ∀ g ∈ x, g.f1.size ≤ 9223372036854775807) : ∃ t, Ev (fun k => laws_szProfile.f k a b x m) t ∧ (0 ≤ t → t ≤ m ∧ x.length ≤ 1048576) ∧ t ≤ 1048576 := by
  unfold laws_szProfile.f
  rw [w64 _ (by omega) (by omega)]
  by_cases h : m - (a.size : Int) < 0
  · exact ⟨_, Ev.pos h Ev.pure, by omega, by omega⟩
  · obtain ⟨t, ht, hm, hn⟩ := szGenS_ev x hx (m - (a.size : Int)) (by omega) (by omega) ok
    by_cases h2 : t < 0
    · exact ⟨_, Ev.neg h (Ev.bind ht (Ev.pos h2 Ev.pure)), by omega, by omega⟩
    · refine ⟨_, Ev.neg h (Ev.bind ht (Ev.neg h2 Ev.pure)), ?_, hn⟩
      intro h3
      obtain ⟨p, q⟩ := hm h3
      exact ⟨by omega, q⟩
theorem szProfileS_ev (x : List S49) (m : Int) (h0 : 0 ≤ m) (h1 : m ≤ 1048576) (hx : x.length ≤ maxLen) (ok : ∀ y0 ∈ x, (y0.f0.size ≤ maxLen ∧ (Lit.int .i64 y0.f1).wf = true ∧ (y0.f2.length ≤ maxLen ∧ ∀ y1 ∈ y0.f2, ((Lit.int .i64 y1.f0).wf = true ∧ y1.f1.size ≤ maxLen)))) :
    ∃ t, Ev (fun k => laws_szProfileS.f k x m) t ∧ (0 ≤ t → x.length ≤ 1048576 ∧ ∀ p ∈ x, p.f2.length ≤ 1048576) := by
  have mx : maxLen = 9223372036854775807 := by decide
  unfold laws_szProfileS.f
  rw [w64 _ (by omega) (by omega)]
  by_cases h : m - (x.length : Int) < 0
  · exact ⟨_, Ev.pos h Ev.pure, by omega⟩
  · have key := downTo x.length (fun i => ∀ a : Int, 0 ≤ a → a ≤ 1048576 → ∃ t, Ev (fun k => laws_szProfileS.l0 k x a (i : Int)) t ∧ (0 ≤ t → ∀ p ∈ x.drop i, p.f2.length ≤ 1048576)) ?_ ?_ 0 (by omega)
    · obtain ⟨t, a, b⟩ := key (m - (x.length : Int)) (by omega) (by omega)
      refine ⟨t, Ev.neg h a, fun h3 => ⟨by omega, ?_⟩⟩
      simpa using b h3
    · intro a a0 a1
      refine ⟨a, Ev.step ?_, by simp⟩
      simp only [laws_szProfileS.l0]
      exact Ev.neg (by omega) Ev.pure
    · intro i hi ih a a0 a1
      obtain ⟨o1, o2, o3, o4⟩ := ok _ (List.getElem_mem hi)
      obtain ⟨t, ht, hm, hn⟩ := szProfile_ev (x[i]).f0 (x[i]).f1 (x[i]).f2 (by omega) (by omega) a a0 a1 (fun g hg => by have := (o4 g hg).2; omega)
      by_cases h2 : t < 0
      · refine ⟨-1, Ev.step ?_, by omega⟩
        simp only [laws_szProfileS.l0, rd49 x i hi]
        exact Ev.pos (by omega) (Ev.pos (by omega) (Ev.bind ht (Ev.pos h2 Ev.pure)))
      · obtain ⟨r, hr, hr2⟩ := ih t (by omega) hn
        refine ⟨r, Ev.step ?_, ?_⟩
        · simp only [laws_szProfileS.l0, rd49 x i hi, upN i (by omega)]
          exact Ev.pos (by omega) (Ev.pos (by omega) (Ev.bind ht (Ev.neg h2 hr)))
        · intro h3 p hp
          rw [List.drop_eq_getElem_cons hi] at hp
          rcases List.mem_cons.1 hp with rfl | hp
          · exact (hm (by omega)).2
          · exact hr2 h3 p hp
theorem toGenS_ev (x : List S87) (hx : x.length ≤ 1048576) : Ev (fun k => laws_toGenS.f k x) (x.map cGen) := by
  unfold laws_toGenS.f
  refine Ev.pos (by omega) (Ev.pos (by omega) ?_)
  refine setLoop (fun k y i => laws_toGenS.l0 k x y i) x cGen ?_ ?_ _ (by simp)
  · intro i y r hi hy h
    refine Ev.step ?_
    simp only [laws_toGenS.l0, rd87 x i hi, upN i (by omega), laws_toGen.f]
    exact Ev.pos (by omega) (Ev.pos (by omega) (Ev.cons rfl (Ev.pos (by omega) h)))
  · intro y hy
    refine Ev.step ?_
    simp only [laws_toGenS.l0]
    exact Ev.neg (by omega) Ev.pure
theorem toProfile_ev (a : ByteArray) (b : Int) (x : List S87) (hx : x.length ≤ 1048576) : Ev (fun k => laws_toProfile.f k a b x) (a, b, x.map cGen) := by
  unfold laws_toProfile.f
  exact Ev.bind (toGenS_ev x hx) Ev.pure
theorem toProfileS_ev (x : List S49) (hx : x.length ≤ 1048576) (ok : ∀ p ∈ x, p.f2.length ≤ 1048576) : Ev (fun k => laws_toProfileS.f k x) (x.map cProfile) := by
  unfold laws_toProfileS.f
  refine Ev.pos (by omega) (Ev.pos (by omega) ?_)
  refine setLoop (fun k y i => laws_toProfileS.l0 k x y i) x cProfile ?_ ?_ _ (by simp)
  · intro i y r hi hy h
    refine Ev.step ?_
    simp only [laws_toProfileS.l0, rd49 x i hi, upN i (by omega)]
    exact Ev.pos (by omega) (Ev.pos (by omega) (Ev.bind (toProfile_ev _ _ _ (ok _ (List.getElem_mem hi))) (Ev.pos (by omega) h)))
  · intro y hy
    refine Ev.step ?_
    simp only [laws_toProfileS.l0]
    exact Ev.neg (by omega) Ev.pure
theorem eqGenS_ev (x : List S56) (hx : x.length ≤ 1048576) : Ev (fun k => laws_eqGenS.f k x x) true := by
  unfold laws_eqGenS.f
  refine Ev.pos rfl ?_
  refine countLoop (fun k i => laws_eqGenS.l0 k x x i) x.length true ?_ ?_
  · intro i hi h
    refine Ev.step ?_
    simp only [laws_eqGenS.l0, rd56 x i hi, upN i (by omega), laws_eqGen.f]
    exact Ev.pos (by omega) (Ev.pos (by omega) (Ev.pos (by omega) (Ev.cons (by simp) (Ev.pos rfl h))))
  · refine Ev.step ?_
    simp only [laws_eqGenS.l0]
    exact Ev.neg (by omega) Ev.pure
theorem eqProfile_ev (a : ByteArray) (b : Int) (x : List S56) (hx : x.length ≤ 1048576) : Ev (fun k => laws_eqProfile.f k a b x a b x) true := by
  unfold laws_eqProfile.f
  exact Ev.pos rfl (Ev.pos rfl (Ev.bind (eqGenS_ev x hx) (Ev.pos rfl Ev.pure)))
theorem eqProfileS_ev (x : List S52) (hx : x.length ≤ 1048576) (ok : ∀ p ∈ x, p.f2.length ≤ 1048576) : Ev (fun k => laws_eqProfileS.f k x x) true := by
  unfold laws_eqProfileS.f
  refine Ev.pos rfl ?_
  refine countLoop (fun k i => laws_eqProfileS.l0 k x x i) x.length true ?_ ?_
  · intro i hi h
    refine Ev.step ?_
    simp only [laws_eqProfileS.l0, rd52 x i hi, upN i (by omega)]
    exact Ev.pos (by omega) (Ev.pos (by omega) (Ev.pos (by omega) (Ev.bind (eqProfile_ev _ _ _ (ok _ (List.getElem_mem hi))) (Ev.pos rfl h))))
  · refine Ev.step ?_
    simp only [laws_eqProfileS.l0]
    exact Ev.neg (by omega) Ev.pure
theorem l13Gen_ev (a : ByteArray) (b : Int) (x : List S56) (hx : x.length ≤ 1048576) (n : Int) : ∃ t, Ev (fun k => spec_l13Gen.f k a b x n) t ∧ (t < 0 ↔ x.any (fun g => g.f0 == n) = false) := by
  unfold spec_l13Gen.f
  have key := downTo x.length (fun i => ∃ t, Ev (fun k => spec_l13Gen.l0 k n (i : Int) a b x) t ∧ (t < 0 ↔ (x.drop i).any (fun g => g.f0 == n) = false)) ?_ ?_ 0 (by omega)
  · simpa using key
  · refine ⟨-1, Ev.step ?_, by simp⟩
    simp only [spec_l13Gen.l0]
    exact Ev.neg (by omega) Ev.pure
  · intro i hi ⟨t, ht, he⟩
    by_cases h : (x[i]).f0 = n
    · refine ⟨(i : Int), Ev.step ?_, ?_⟩
      · simp only [spec_l13Gen.l0, rd56 x i hi]
        exact Ev.pos (by omega) (Ev.pos (by omega) (Ev.pos h Ev.pure))
      · rw [List.drop_eq_getElem_cons hi, List.any_cons]
        simp [h]
    · refine ⟨t, Ev.step ?_, ?_⟩
      · simp only [spec_l13Gen.l0, rd56 x i hi, upN i (by omega)]
        exact Ev.pos (by omega) (Ev.pos (by omega) (Ev.neg h ht))
      · rw [List.drop_eq_getElem_cons hi, List.any_cons, he]
        simp [h]
theorem specName_ev (s : ByteArray) : Ev (fun k => spec_NameOk.f k s) (nmOk s) := Ev.of 63 (fun k hk => spec_NameOk_f s k hk)
theorem implName_ev (s : ByteArray) : Ev (fun k => impl_NameOk.f k s) (nmOk s) := Ev.of 63 (fun k hk => impl_NameOk_f s k hk)
theorem specAddress_ev (s : ByteArray) : Ev (fun k => spec_AddressOk.f k s) (adOk s) := Ev.of 64 (fun k hk => spec_AddressOk_f s k hk)
theorem implAddress_ev (s : ByteArray) : Ev (fun k => impl_AddressOk.f k s) (adOk s) := Ev.of 64 (fun k hk => impl_AddressOk_f s k hk)
/-- A generation at its place. -/
def gOk (x : List S56) (q : Nat) : Prop := ∀ h : q < x.length, 1 ≤ (x[q]).f0 ∧ (x[q]).f0 ≤ 9007199254740992 ∧ adOk (x[q]).f1 = true ∧ (0 < q → (x[q - 1]).f0 < (x[q]).f0)
/-- A profile. -/
def pOk (p : S52) : Prop := nmOk p.f0 = true ∧ p.f2.length ≤ 50 ∧ (p.f1 = 0 ∨ p.f2.any (fun g => g.f0 == p.f1) = true) ∧ ∀ q, gOk p.f2 q
/-- A profile at its place. -/
def pAt (ps : List S52) (i : Nat) : Prop := ∀ h : i < ps.length, pOk (ps[i]) ∧ (0 < i → Op.bytesLess ((ps[i - 1]).f0).toList ((ps[i]).f0).toList = true)
theorem go_no {b' : Bool} {f : Nat → Prop} {j : Nat} (h : ¬ f j) : false = true ↔ (b' = true ∧ ∀ q, j ≤ q → f q) := ⟨fun h => by simp at h, fun h2 => absurd (h2.2 j (Nat.le_refl _)) h⟩
theorem go_on {b b' : Bool} {f : Nat → Prop} {j : Nat} (h : f j) (ih : b = true ↔ (b' = true ∧ ∀ q, j + 1 ≤ q → f q)) : b = true ↔ (b' = true ∧ ∀ q, j ≤ q → f q) := by
  rw [ih]
  refine ⟨fun h2 => ⟨h2.1, fun q hq => ?_⟩, fun h2 => ⟨h2.1, fun q hq => h2.2 q (by omega)⟩⟩
  by_cases e : q = j
  · subst e; exact h
  · exact h2.2 q (by omega)
theorem profile_gens (ps : List S52) (i : Nat) (b' : Bool) (a : ByteArray) (n : Int) (x : List S56) (hx : x.length ≤ 50)
    (hs : Ev (fun k => spec_ProfilesOk.l0 k ps (wrap64 ((i : Int) + 1))) b') (hm : Ev (fun k => impl_ProfilesOk.l0 k ps ps (ps.length : Int) (wrap64 ((i : Int) + 1))) b') :
    ∃ b : Bool, (b = true ↔ (b' = true ∧ ∀ q, 0 ≤ q → gOk x q)) ∧ Ev (fun k => spec_ProfilesOk.l1 k ps (i : Int) 0 a n x) b ∧ ∀ now : Bool, Ev (fun k => impl_ProfilesOk.l1 k ps now ps (ps.length : Int) (i : Int) x (x.length : Int) 0 a n x) (if (now || x.any (fun g => g.f0 == n)) = true then b else false) := by
  have key := downTo x.length (fun j => ∃ b : Bool, (b = true ↔ (b' = true ∧ ∀ q, j ≤ q → gOk x q)) ∧ Ev (fun k => spec_ProfilesOk.l1 k ps (i : Int) (j : Int) a n x) b ∧ ∀ now : Bool, Ev (fun k => impl_ProfilesOk.l1 k ps now ps (ps.length : Int) (i : Int) x (x.length : Int) (j : Int) a n x) (if (now || (x.drop j).any (fun g => g.f0 == n)) = true then b else false)) ?_ ?_ 0 (by omega)
  · simpa using key
  · refine ⟨b', ⟨fun h => ⟨h, fun q hq h2 => absurd h2 (by omega)⟩, fun h => h.1⟩, Ev.step ?_, fun now => Ev.step ?_⟩
    · simp only [spec_ProfilesOk.l1]
      exact Ev.neg (by omega) hs
    · simp only [impl_ProfilesOk.l1]
      refine Ev.neg (by omega) ?_
      cases now
      · rw [if_neg (by simp)]; exact Ev.neg (by simp) Ev.pure
      · rw [if_pos (by simp)]; exact Ev.pos rfl hm
  · intro j hj ⟨b, hb, h1, h2⟩
    by_cases c1 : (x[j]).f0 < 1
    · refine ⟨false, go_no (fun h => by have := (h hj).1; omega), Ev.step ?_, fun now => Ev.step ?_⟩
      · simp only [spec_ProfilesOk.l1, rd56 x j hj]
        exact Ev.pos (by omega) (Ev.pos (by omega) (Ev.pos c1 Ev.pure))
      · simp only [impl_ProfilesOk.l1, rd56 x j hj, ite_self]
        exact Ev.pos (by omega) (Ev.pos (by omega) (Ev.pos (by omega) (Ev.pos c1 Ev.pure)))
    by_cases c2 : (x[j]).f0 > 9007199254740992
    · refine ⟨false, go_no (fun h => by have := (h hj).2.1; omega), Ev.step ?_, fun now => Ev.step ?_⟩
      · simp only [spec_ProfilesOk.l1, rd56 x j hj]
        exact Ev.pos (by omega) (Ev.pos (by omega) (Ev.neg c1 (Ev.pos c2 Ev.pure)))
      · simp only [impl_ProfilesOk.l1, rd56 x j hj, ite_self]
        exact Ev.pos (by omega) (Ev.pos (by omega) (Ev.pos (by omega) (Ev.neg c1 (Ev.pos c2 Ev.pure))))
    by_cases c3 : adOk (x[j]).f1 = true
    · have e : ∀ now : Bool, (now || (x.drop j).any (fun g => g.f0 == n)) = ((if now = true then true else ((x[j]).f0 == n)) || (x.drop (j + 1)).any (fun g => g.f0 == n)) := by
        intro now
        rw [List.drop_eq_getElem_cons hj, List.any_cons]
        cases now <;> simp
      have hn : ∀ now : Bool, Ev (fun k => if now = true then impl_ProfilesOk.l1 k ps true ps (ps.length : Int) (i : Int) x (x.length : Int) ((j + 1 : Nat) : Int) a n x else impl_ProfilesOk.l1 k ps ((x[j]).f0 == n) ps (ps.length : Int) (i : Int) x (x.length : Int) ((j + 1 : Nat) : Int) a n x) (if (now || (x.drop j).any (fun g => g.f0 == n)) = true then b else false) := by
        intro now
        rw [e now]
        cases now
        · exact Ev.neg (by simp) (h2 _)
        · exact Ev.pos rfl (h2 _)
      by_cases c4 : 0 < j
      · have hj1 : j - 1 < x.length := by omega
        by_cases c5 : (x[j - 1]).f0 ≥ (x[j]).f0
        · refine ⟨false, go_no (fun h => by have := (h hj).2.2.2 c4; omega), Ev.step ?_, fun now => Ev.step ?_⟩
          · simp only [spec_ProfilesOk.l1, rd56 x j hj, dnN j (by omega) c4, rd56 x (j - 1) hj1]
            exact Ev.pos (by omega) (Ev.pos (by omega) (Ev.neg c1 (Ev.neg c2 (Ev.pos (by omega) (Ev.pos (by omega) (Ev.pos (by omega) (Ev.pos c5 Ev.pure)))))))
          · simp only [impl_ProfilesOk.l1, rd56 x j hj, dnN j (by omega) c4, rd56 x (j - 1) hj1, ite_self]
            exact Ev.pos (by omega) (Ev.pos (by omega) (Ev.pos (by omega) (Ev.neg c1 (Ev.neg c2 (Ev.bind (implAddress_ev _) (Ev.pos c3 (Ev.pos (by omega) (Ev.pos (by omega) (Ev.pos (by omega) (Ev.pos c5 Ev.pure))))))))))
        · refine ⟨b, go_on (fun _ => ⟨by omega, by omega, c3, fun _ => by omega⟩) hb, Ev.step ?_, fun now => Ev.step ?_⟩
          · simp only [spec_ProfilesOk.l1, rd56 x j hj, dnN j (by omega) c4, rd56 x (j - 1) hj1, upN j (by omega)]
            exact Ev.pos (by omega) (Ev.pos (by omega) (Ev.neg c1 (Ev.neg c2 (Ev.pos (by omega) (Ev.pos (by omega) (Ev.pos (by omega) (Ev.neg c5 (Ev.bind (specAddress_ev _) (Ev.pos c3 h1)))))))))
          · simp only [impl_ProfilesOk.l1, rd56 x j hj, dnN j (by omega) c4, rd56 x (j - 1) hj1, upN j (by omega)]
            exact Ev.pos (by omega) (Ev.pos (by omega) (Ev.pos (by omega) (Ev.neg c1 (Ev.neg c2 (Ev.bind (implAddress_ev _) (Ev.pos c3 (Ev.pos (by omega) (Ev.pos (by omega) (Ev.pos (by omega) (Ev.neg c5 (hn now)))))))))))
      · refine ⟨b, go_on (fun _ => ⟨by omega, by omega, c3, fun h => absurd h c4⟩) hb, Ev.step ?_, fun now => Ev.step ?_⟩
        · simp only [spec_ProfilesOk.l1, rd56 x j hj, upN j (by omega)]
          exact Ev.pos (by omega) (Ev.pos (by omega) (Ev.neg c1 (Ev.neg c2 (Ev.neg (by omega) (Ev.bind (specAddress_ev _) (Ev.pos c3 h1))))))
        · simp only [impl_ProfilesOk.l1, rd56 x j hj, upN j (by omega)]
          exact Ev.pos (by omega) (Ev.pos (by omega) (Ev.pos (by omega) (Ev.neg c1 (Ev.neg c2 (Ev.bind (implAddress_ev _) (Ev.pos c3 (Ev.neg (by omega) (hn now))))))))
    · refine ⟨false, go_no (fun h => c3 (h hj).2.2.1), Ev.step ?_, fun now => Ev.step ?_⟩
      · by_cases c4 : 0 < j
        · have hj1 : j - 1 < x.length := by omega
          by_cases c5 : (x[j - 1]).f0 ≥ (x[j]).f0
          · simp only [spec_ProfilesOk.l1, rd56 x j hj, dnN j (by omega) c4, rd56 x (j - 1) hj1]
            exact Ev.pos (by omega) (Ev.pos (by omega) (Ev.neg c1 (Ev.neg c2 (Ev.pos (by omega) (Ev.pos (by omega) (Ev.pos (by omega) (Ev.pos c5 Ev.pure)))))))
          · simp only [spec_ProfilesOk.l1, rd56 x j hj, dnN j (by omega) c4, rd56 x (j - 1) hj1]
            exact Ev.pos (by omega) (Ev.pos (by omega) (Ev.neg c1 (Ev.neg c2 (Ev.pos (by omega) (Ev.pos (by omega) (Ev.pos (by omega) (Ev.neg c5 (Ev.bind (specAddress_ev _) (Ev.neg c3 Ev.pure)))))))))
        · simp only [spec_ProfilesOk.l1, rd56 x j hj]
          exact Ev.pos (by omega) (Ev.pos (by omega) (Ev.neg c1 (Ev.neg c2 (Ev.neg (by omega) (Ev.bind (specAddress_ev _) (Ev.neg c3 Ev.pure))))))
      · simp only [impl_ProfilesOk.l1, rd56 x j hj, ite_self]
        exact Ev.pos (by omega) (Ev.pos (by omega) (Ev.pos (by omega) (Ev.neg c1 (Ev.neg c2 (Ev.bind (implAddress_ev _) (Ev.neg c3 Ev.pure))))))
theorem ProfilesOk_iff (ps : List S52) : ∃ b : Bool, (b = true ↔ (ps.length ≤ 20 ∧ ∀ i, pAt ps i)) ∧ Ev (fun k => spec_ProfilesOk.f k ps) b ∧ Ev (fun k => impl_ProfilesOk.f k ps) b := by
  unfold spec_ProfilesOk.f impl_ProfilesOk.f
  by_cases hl : (ps.length : Int) > 20
  · exact ⟨false, ⟨fun h => by simp at h, fun h => absurd h.1 (by omega)⟩, Ev.pos hl Ev.pure, Ev.pos hl Ev.pure⟩
  have key := downTo ps.length (fun i => ∃ b : Bool, (b = true ↔ (true = true ∧ ∀ q, i ≤ q → pAt ps q)) ∧ Ev (fun k => spec_ProfilesOk.l0 k ps (i : Int)) b ∧ Ev (fun k => impl_ProfilesOk.l0 k ps ps (ps.length : Int) (i : Int)) b) ?_ ?_ 0 (by omega)
  · obtain ⟨b, hb, h1, h2⟩ := key
    exact ⟨b, ⟨fun h => ⟨by omega, fun i => (hb.1 h).2 i (by omega)⟩, fun h => hb.2 ⟨rfl, fun i _ => h.2 i⟩⟩, Ev.neg hl h1, Ev.neg hl h2⟩
  · refine ⟨true, ⟨fun _ => ⟨rfl, fun q hq h2 => absurd h2 (by omega)⟩, fun _ => rfl⟩, Ev.step ?_, Ev.step ?_⟩
    · simp only [spec_ProfilesOk.l0]
      exact Ev.neg (by omega) Ev.pure
    · simp only [impl_ProfilesOk.l0]
      exact Ev.neg (by omega) Ev.pure
  · intro i hi ⟨b', hb, h1, h2⟩
    rw [← upN i (by omega)] at h1 h2
    have fin : ∀ (m : Bool), (m = false → ((ps[i]).f2.length : Int) ≤ 50) → ∃ b : Bool, (b = true ↔ (b' = true ∧ m = false ∧ ((ps[i]).f1 = 0 ∨ (ps[i]).f2.any (fun g => g.f0 == (ps[i]).f1) = true) ∧ ∀ q, gOk (ps[i]).f2 q)) ∧ (∀ t : Bool, t = (m || (if (ps[i]).f1 = 0 then false else !((ps[i]).f2.any (fun g => g.f0 == (ps[i]).f1)))) → Ev (fun k => spec_ProfilesOk.j1 k ps (i : Int) t (ps[i]).f0 (ps[i]).f1 (ps[i]).f2) b) ∧ Ev (fun k => impl_ProfilesOk.j1 k ps ps (ps.length : Int) (i : Int) m (ps[i]).f0 (ps[i]).f1 (ps[i]).f2) b := by
      intro m hm
      cases m
      · obtain ⟨b, gb, g1, g2⟩ := profile_gens ps i b' (ps[i]).f0 (ps[i]).f1 (ps[i]).f2 (by have := hm rfl; omega) h1 h2
        refine ⟨if (((ps[i]).f1 == 0) || (ps[i]).f2.any (fun g => g.f0 == (ps[i]).f1)) = true then b else false, ?_, ?_, Ev.step ?_⟩
        · by_cases c : (((ps[i]).f1 == 0) || (ps[i]).f2.any (fun g => g.f0 == (ps[i]).f1)) = true
          · rw [if_pos c, gb]
            rw [Bool.or_eq_true] at c
            exact ⟨fun h => ⟨h.1, rfl, by rcases c with c | c; exact Or.inl (by simpa using c); exact Or.inr c, fun q => h.2 q (by omega)⟩, fun h => ⟨h.1, fun q _ => h.2.2.2 q⟩⟩
          · rw [if_neg c]
            refine ⟨fun h => by simp at h, fun h => ?_⟩
            exfalso
            apply c
            rw [Bool.or_eq_true]
            rcases h.2.2.1 with e | e
            · exact Or.inl (by simpa using e)
            · exact Or.inr e
        · intro t ht
          refine Ev.step ?_
          simp only [spec_ProfilesOk.j1]
          by_cases c : (ps[i]).f1 = 0
          · have et : t = false := by rw [ht]; simp [c]
            have eb : (((ps[i]).f1 == 0) || (ps[i]).f2.any (fun g => g.f0 == (ps[i]).f1)) = true := by simp [c]
            rw [et, if_pos eb]
            exact Ev.neg (by simp) g1
          · by_cases d : (ps[i]).f2.any (fun g => g.f0 == (ps[i]).f1) = true
            · have et : t = false := by rw [ht, if_neg c, d]; rfl
              have eb : (((ps[i]).f1 == 0) || (ps[i]).f2.any (fun g => g.f0 == (ps[i]).f1)) = true := by rw [d]; simp
              rw [et, if_pos eb]
              exact Ev.neg (by simp) g1
            · have d' : (ps[i]).f2.any (fun g => g.f0 == (ps[i]).f1) = false := by simpa using d
              have et : t = true := by rw [ht, if_neg c, d']; rfl
              have eb : ¬ (((ps[i]).f1 == 0) || (ps[i]).f2.any (fun g => g.f0 == (ps[i]).f1)) = true := by rw [d']; simp [c]
              rw [et, if_neg eb]
              exact Ev.pos rfl Ev.pure
        · simp only [impl_ProfilesOk.j1]
          exact Ev.neg (by simp) (g2 _)
      · refine ⟨false, by simp, ?_, Ev.step ?_⟩
        · intro t ht
          refine Ev.step ?_
          simp only [spec_ProfilesOk.j1]
          exact Ev.pos (by rw [ht]; rfl) Ev.pure
        · simp only [impl_ProfilesOk.j1]
          exact Ev.pos trivial Ev.pure
    have tail : ∃ b : Bool, (b = true ↔ (b' = true ∧ (ps[i]).f2.length ≤ 50 ∧ ((ps[i]).f1 = 0 ∨ (ps[i]).f2.any (fun g => g.f0 == (ps[i]).f1) = true) ∧ ∀ q, gOk (ps[i]).f2 q)) ∧ Ev (fun k => if ((ps[i]).f2.length : Int) > 50 then (spec_ProfilesOk.j1 k ps (i : Int) true (ps[i]).f0 (ps[i]).f1 (ps[i]).f2) else (if (ps[i]).f1 = 0 then (spec_ProfilesOk.j1 k ps (i : Int) false (ps[i]).f0 (ps[i]).f1 (ps[i]).f2) else ((spec_l13Gen.f k (ps[i]).f0 (ps[i]).f1 (ps[i]).f2 (ps[i]).f1).bind fun t => (spec_ProfilesOk.j1 k ps (i : Int) (decide (t < 0)) (ps[i]).f0 (ps[i]).f1 (ps[i]).f2)))) b
        ∧ Ev (fun k => impl_ProfilesOk.j1 k ps ps (ps.length : Int) (i : Int) (decide (((ps[i]).f2.length : Int) > 50)) (ps[i]).f0 (ps[i]).f1 (ps[i]).f2) b := by
      by_cases c : ((ps[i]).f2.length : Int) > 50
      · obtain ⟨b, gb, g1, g2⟩ := fin true (by simp)
        refine ⟨b, by rw [gb]; exact ⟨fun h => absurd h.2.1 (by simp), fun h => absurd h.2.1 (by omega)⟩, Ev.pos c (g1 _ rfl), ?_⟩
        rw [decide_eq_true c]; exact g2
      · obtain ⟨b, gb, g1, g2⟩ := fin false (by omega)
        rw [decide_eq_false c]
        refine ⟨b, by rw [gb]; exact ⟨fun h => ⟨h.1, by omega, h.2.2⟩, fun h => ⟨h.1, rfl, h.2.2⟩⟩, Ev.neg c ?_, g2⟩
        by_cases d : (ps[i]).f1 = 0
        · exact Ev.pos d (g1 _ (by rw [if_pos d]; rfl))
        · obtain ⟨t, ht, he⟩ := l13Gen_ev (ps[i]).f0 (ps[i]).f1 (ps[i]).f2 (by omega) (ps[i]).f1
          refine Ev.neg d (Ev.bind ht (g1 _ ?_))
          rw [if_neg d]
          by_cases t0 : t < 0
          · rw [decide_eq_true t0, he.1 t0]; rfl
          · have : ¬ _ := fun h => t0 (he.2 h)
            rw [decide_eq_false t0]
            simp only [Bool.not_eq_false] at this
            rw [this]; rfl
    obtain ⟨bt, fb, f1, f2⟩ := fin true (by simp)
    obtain rfl : bt = false := by
      cases bt
      · rfl
      · exact absurd (fb.1 rfl).2.1 (by simp)
    have f1 := f1 true rfl
    by_cases c1 : nmOk (ps[i]).f0 = true
    · by_cases c2 : 0 < i
      · have hi1 : i - 1 < ps.length := by omega
        by_cases c3 : Op.bytesLess ((ps[i - 1]).f0).toList ((ps[i]).f0).toList = true
        · obtain ⟨b, tb, t1, t2⟩ := tail
          refine ⟨b, by rw [tb]; exact ⟨fun h => ⟨rfl, fun q hq => by
            by_cases e : q = i
            · subst e; exact fun _ => ⟨⟨c1, h.2.1, h.2.2.1, h.2.2.2⟩, fun _ => c3⟩
            · exact (hb.1 h.1).2 q (by omega)⟩, fun h => ⟨hb.2 ⟨rfl, fun q hq => h.2 q (by omega)⟩, (h.2 i (Nat.le_refl _) hi).1.2.1, (h.2 i (Nat.le_refl _) hi).1.2.2.1, (h.2 i (Nat.le_refl _) hi).1.2.2.2⟩⟩, Ev.step ?_, Ev.step ?_⟩
          · simp only [spec_ProfilesOk.l0, rd52 ps i hi, dnN i (by omega) c2, rd52 ps (i - 1) hi1]
            exact Ev.pos (by omega) (Ev.pos (by omega) (Ev.bind (specName_ev _) (Ev.pos c1 (Ev.pos (by omega) (Ev.pos (by omega) (Ev.pos (by omega) (Ev.pos c3 t1)))))))
          · simp only [impl_ProfilesOk.l0, rd52 ps i hi, dnN i (by omega) c2, rd52 ps (i - 1) hi1]
            exact Ev.pos (by omega) (Ev.pos (by omega) (Ev.pos (by omega) (Ev.bind (implName_ev _) (Ev.pos c1 (Ev.pos (by omega) (Ev.pos (by omega) (Ev.pos (by omega) (Ev.pos c3 t2))))))))
        · refine ⟨false, go_no (fun h => c3 ((h hi).2 c2)), Ev.step ?_, Ev.step ?_⟩
          · simp only [spec_ProfilesOk.l0, rd52 ps i hi, dnN i (by omega) c2, rd52 ps (i - 1) hi1]
            exact Ev.pos (by omega) (Ev.pos (by omega) (Ev.bind (specName_ev _) (Ev.pos c1 (Ev.pos (by omega) (Ev.pos (by omega) (Ev.pos (by omega) (Ev.neg c3 f1)))))))
          · simp only [impl_ProfilesOk.l0, rd52 ps i hi, dnN i (by omega) c2, rd52 ps (i - 1) hi1]
            exact Ev.pos (by omega) (Ev.pos (by omega) (Ev.pos (by omega) (Ev.bind (implName_ev _) (Ev.pos c1 (Ev.pos (by omega) (Ev.pos (by omega) (Ev.pos (by omega) (Ev.neg c3 f2))))))))
      · obtain ⟨b, tb, t1, t2⟩ := tail
        refine ⟨b, by rw [tb]; exact ⟨fun h => ⟨rfl, fun q hq => by
            by_cases e : q = i
            · subst e; exact fun _ => ⟨⟨c1, h.2.1, h.2.2.1, h.2.2.2⟩, fun h => absurd h c2⟩
            · exact (hb.1 h.1).2 q (by omega)⟩, fun h => ⟨hb.2 ⟨rfl, fun q hq => h.2 q (by omega)⟩, (h.2 i (Nat.le_refl _) hi).1.2.1, (h.2 i (Nat.le_refl _) hi).1.2.2.1, (h.2 i (Nat.le_refl _) hi).1.2.2.2⟩⟩, Ev.step ?_, Ev.step ?_⟩
        · simp only [spec_ProfilesOk.l0, rd52 ps i hi]
          exact Ev.pos (by omega) (Ev.pos (by omega) (Ev.bind (specName_ev _) (Ev.pos c1 (Ev.neg (by omega) t1))))
        · simp only [impl_ProfilesOk.l0, rd52 ps i hi]
          exact Ev.pos (by omega) (Ev.pos (by omega) (Ev.pos (by omega) (Ev.bind (implName_ev _) (Ev.pos c1 (Ev.neg (by omega) t2)))))
    · refine ⟨false, go_no (fun h => c1 (h hi).1.1), Ev.step ?_, Ev.step ?_⟩
      · simp only [spec_ProfilesOk.l0, rd52 ps i hi]
        exact Ev.pos (by omega) (Ev.pos (by omega) (Ev.bind (specName_ev _) (Ev.neg c1 f1)))
      · simp only [impl_ProfilesOk.l0, rd52 ps i hi]
        exact Ev.pos (by omega) (Ev.pos (by omega) (Ev.pos (by omega) (Ev.bind (implName_ev _) (Ev.neg c1 f2))))
theorem ProfilesOk_ev (ps : List S52) : ∃ b, Ev (fun k => spec_ProfilesOk.f k ps) b ∧ Ev (fun k => impl_ProfilesOk.f k ps) b := by
  obtain ⟨b, _, h⟩ := ProfilesOk_iff ps
  exact ⟨b, h⟩

-- FindP
theorem findProfile_ev (x : List S52) (hx : x.length ≤ 1048576) (n : ByteArray) : ∃ t : Int, Ev (fun k => spec_l13Find.f k x n) t ∧ Ev (fun k => impl_profileOf.f k x n) t ∧ (0 ≤ t → t < x.length) := by
  unfold spec_l13Find.f impl_profileOf.f
  refine downTo x.length (fun i => ∃ t : Int, Ev (fun k => spec_l13Find.l0 k x n (i : Int)) t ∧ Ev (fun k => impl_profileOf.l0 k n x (x.length : Int) (i : Int)) t ∧ (0 ≤ t → t < x.length)) ?_ ?_ 0 (by omega)
  · refine ⟨-1, Ev.step ?_, Ev.step ?_, by omega⟩
    · simp only [spec_l13Find.l0]
      exact Ev.neg (by omega) Ev.pure
    · simp only [impl_profileOf.l0]
      exact Ev.neg (by omega) Ev.pure
  · intro i hi ⟨t, h1, h2, h3⟩
    by_cases c : (x[i]).f0.toList = n.toList
    · refine ⟨(i : Int), Ev.step ?_, Ev.step ?_, by omega⟩
      · simp only [spec_l13Find.l0, rd52 x i hi]
        exact Ev.pos (by omega) (Ev.pos (by omega) (Ev.pos c Ev.pure))
      · simp only [impl_profileOf.l0, rd52 x i hi]
        exact Ev.pos (by omega) (Ev.pos (by omega) (Ev.pos (by omega) (Ev.pos c Ev.pure)))
    · refine ⟨t, Ev.step ?_, Ev.step ?_, h3⟩
      · simp only [spec_l13Find.l0, rd52 x i hi, upN i (by omega)]
        exact Ev.pos (by omega) (Ev.pos (by omega) (Ev.neg c h1))
      · simp only [impl_profileOf.l0, rd52 x i hi, upN i (by omega)]
        exact Ev.pos (by omega) (Ev.pos (by omega) (Ev.pos (by omega) (Ev.neg c h2)))

-- AtL
theorem len1 {α : Type} (p : List α) (x : α) (h : p.length < 1000000000000000) : wrap64 ((p.length : Int) + 1) = (((p ++ [x]).length : Nat) : Int) := by
  rw [List.length_append]
  simp only [List.length_cons, List.length_nil]
  exact upN p.length h
theorem setAt {α : Type} (p t : List α) (x v : α) : (p ++ x :: t).set ((p.length : Nat) : Int).toNat v = (p ++ [v]) ++ t := by
  simp
theorem getAt {α : Type} (p t : List α) (x z : α) : (p ++ x :: t).getD ((p.length : Nat) : Int).toNat z = x := by
  simp [List.getD_eq_getElem?_getD]
theorem upI (a : Int) (h0 : 0 ≤ a) (h : a < 1000000000000000) : wrap64 (a + 1) = a + 1 := by unfold wrap64; omega

-- MarkP
theorem markText_go (d : Nat) (hd : d ≤ 16) : ∀ (x : Int) (s : ByteArray), 0 ≤ x → x < 10 ^ d → s.size + d ≤ 100 → ∃ r, Ev (fun k => laws_markText.l0 k x s) r := by
  induction d with
  | zero =>
    intro x s h0 h1 h2
    refine ⟨(⟨#[109]⟩ : ByteArray) ++ s, Ev.step ?_⟩
    simp only [laws_markText.l0]
    exact Ev.neg (by simp at h1; omega) (Ev.pos (by omega) Ev.pure)
  | succ d ih =>
    intro x s h0 h1 h2
    by_cases c : x > 0
    · have hp : (10 : Int) ^ (d + 1) = 10 ^ d * 10 := Int.pow_succ 10 d
      have hm : (10 : Int) ^ (d + 1) ≤ 10 ^ 16 := by
        have := Nat.pow_le_pow_right (n := 10) (by omega) hd
        exact_mod_cast this
      have hm2 : (10 : Int) ^ 16 = 10000000000000000 := by decide
      have hq : Int.tdiv x 10 = x / 10 := Int.tdiv_eq_ediv_of_nonneg h0
      have hs : (strOfNums [(wrap64 (48 + (Int.tmod x 10))) % 256]).size = 1 := by rw [strOfNums_size]; rfl
      have hw : wrap64 (Int.tdiv x 10) = x / 10 := by rw [hq]; exact w64 _ (by omega) (by omega)
      obtain ⟨r, hr⟩ := ih (by omega) (x / 10) (strOfNums [(wrap64 (48 + (Int.tmod x 10))) % 256] ++ s) (by omega) (by omega) (by rw [ByteArray.size_append, hs]; omega)
      refine ⟨r, Ev.step ?_⟩
      simp only [laws_markText.l0, hw]
      clear hw
      exact Ev.pos c (Ev.cons rfl (Ev.pos (by rw [hs]; omega) hr))
    · refine ⟨(⟨#[109]⟩ : ByteArray) ++ s, Ev.step ?_⟩
      simp only [laws_markText.l0]
      exact Ev.neg c (Ev.pos (by omega) Ev.pure)
theorem markText_ex (x : Int) (h1 : x < 10000000000000000) : ∃ r, Ev (fun k => laws_markText.f k x) r := by
  unfold laws_markText.f
  by_cases c : x ≤ 0
  · exact ⟨_, Ev.pos c Ev.pure⟩
  · obtain ⟨r, hr⟩ := markText_go 16 (by omega) x (⟨#[]⟩ : ByteArray) (by omega) (by rw [show (10 : Int) ^ 16 = 10000000000000000 by decide]; omega) (by decide)
    exact ⟨r, Ev.neg c hr⟩
open Classical in
/-- The mark's text. -/
noncomputable def mtx (x : Int) : ByteArray := if h : ∃ r, Ev (fun k => laws_markText.f k x) r then h.choose else ByteArray.empty
theorem markText_ev (x : Int) (h1 : x < 10000000000000000) : Ev (fun k => laws_markText.f k x) (mtx x) := by
  have h := markText_ex x h1
  unfold mtx
  rw [dif_pos h]
  exact h.choose_spec
/-- What marking from a on leaves of generations and of profiles, and the number behind. -/
noncomputable def mkG : Int → List S56 → List S56
  | _, [] => []
  | a, _ :: t => ⟨a, mtx (a + 1)⟩ :: mkG (a + 1 + 1) t
theorem mkG_length : ∀ (t : List S56) (a : Int), (mkG a t).length = t.length
  | [], _ => rfl
  | _ :: t, a => by simp [mkG, mkG_length t]
noncomputable def mkP : Int → List S52 → List S52
  | _, [] => []
  | a, s :: t => ⟨mtx a, a + 1, mkG (a + 1 + 1) s.f2⟩ :: mkP (a + 1 + 1 + 2 * s.f2.length) t
def endP : Int → List S52 → Int
  | a, [] => a
  | a, s :: t => endP (a + 1 + 1 + 2 * s.f2.length) t
theorem endP_ge : ∀ (t : List S52) (a : Int), a ≤ endP a t
  | [], a => Int.le_refl a
  | s :: t, a => by
    have := endP_ge t (a + 1 + 1 + 2 * s.f2.length)
    unfold endP
    omega
theorem endP_le (n : Nat) : ∀ (t : List S52) (a : Int), (∀ s ∈ t, s.f2.length ≤ n) → endP a t ≤ a + t.length * (2 * n + 2)
  | [], a, _ => by simp [endP]
  | s :: t, a, h => by
    have h1 := endP_le n t (a + 1 + 1 + 2 * s.f2.length) (fun q hq => h q (List.mem_cons_of_mem _ hq))
    have h2 := h s List.mem_cons_self
    unfold endP
    rw [List.length_cons]
    have h3 : (((t.length + 1 : Nat) : Int)) * (2 * n + 2) = t.length * (2 * n + 2) + (2 * n + 2) := by
      rw [Int.natCast_add, Int.add_mul]; simp
    rw [h3]
    omega
theorem markGenS_go (t : List S56) : ∀ (p : List S56) (a : Int), 0 ≤ a → a + 2 * t.length < 1000000000000000 → p.length + t.length < 1000000000000000 → Ev (fun k => laws_markGenS.l0 k (p ++ t) a (p.length : Int)) (a + 2 * t.length, p ++ mkG a t) := by
  induction t with
  | nil =>
    intro p a h0 h1 h2
    refine Ev.step ?_
    simp only [laws_markGenS.l0]
    refine Ev.neg (by simp) ?_
    simpa [mkG] using (Ev.pure (r := (a, p)))
  | cons x t ih =>
    intro p a h0 h1 h2
    rw [List.length_cons] at h1 h2
    have := ih (p ++ [⟨a, mtx (a + 1)⟩]) (a + 1 + 1) (by omega) (by omega) (by rw [List.length_append]; simp; omega)
    refine Ev.step ?_
    simp only [laws_markGenS.l0, rd_T56, getAt, setAt, upI a h0 (by omega), upI (a + 1) (by omega) (by omega)]
    refine Ev.pos (by simp; omega) (Ev.pos (by omega) ?_)
    refine Ev.cons (a := p ++ [⟨a, x.f1⟩] ++ t) rfl (Ev.bind (markText_ev (a + 1) (by omega)) ?_)
    simp only [List.append_assoc, List.singleton_append, getAt, setAt, len1 p (⟨a, mtx (a + 1)⟩ : S56) (by omega)]
    rw [List.length_cons, mkG]
    rw [show p ++ [⟨a, mtx (a + 1)⟩] ++ mkG (a + 1 + 1) t = p ++ ⟨a, mtx (a + 1)⟩ :: mkG (a + 1 + 1) t by simp] at this
    rw [List.append_assoc, List.singleton_append] at this
    rw [show a + 2 * ((t.length + 1 : Nat) : Int) = a + 1 + 1 + 2 * t.length by omega]
    exact this
theorem markGenS_ev (t : List S56) (a : Int) (h0 : 0 ≤ a) (h1 : a + 2 * t.length < 1000000000000000) : Ev (fun k => laws_markGenS.f k t a) (a + 2 * t.length, mkG a t) := by
  unfold laws_markGenS.f
  exact markGenS_go t [] a h0 h1 (by simp; omega)
theorem heldGenS_go (t : List S56) : ∀ (p : List S56) (a : Int), 0 ≤ a → a + 2 * t.length < 1000000000000000 → p.length + t.length < 1000000000000000 → Ev (fun k => laws_heldGenS.l0 k (p ++ mkG a t) a (p.length : Int)) (a + 2 * t.length) := by
  induction t with
  | nil =>
    intro p a h0 h1 h2
    refine Ev.step ?_
    simp only [laws_heldGenS.l0]
    refine Ev.neg (by simp [mkG]) ?_
    simpa using (Ev.pure (r := a))
  | cons x t ih =>
    intro p a h0 h1 h2
    rw [List.length_cons] at h1 h2
    have := ih (p ++ [⟨a, mtx (a + 1)⟩]) (a + 1 + 1) (by omega) (by omega) (by rw [List.length_append]; simp; omega)
    refine Ev.step ?_
    simp only [laws_heldGenS.l0, mkG, rd_T56, getAt, upI a h0 (by omega), upI (a + 1) (by omega) (by omega), len1 p (⟨a, mtx (a + 1)⟩ : S56) (by omega)]
    refine Ev.pos (by simp; omega) (Ev.pos (by omega) (Ev.pos trivial (Ev.bind (markText_ev (a + 1) (by omega)) (Ev.pos rfl ?_))))
    rw [List.append_assoc, List.singleton_append] at this
    rw [List.length_cons, show a + 2 * ((t.length + 1 : Nat) : Int) = a + 1 + 1 + 2 * t.length by omega]
    exact this
theorem heldGenS_ev (t : List S56) (a : Int) (h0 : 0 ≤ a) (h1 : a + 2 * t.length < 1000000000000000) : Ev (fun k => laws_heldGenS.f k (mkG a t) a) (a + 2 * t.length) := by
  unfold laws_heldGenS.f
  exact heldGenS_go t [] a h0 h1 (by simp; omega)
theorem markProfileS_go (t : List S52) : ∀ (p : List S52) (a : Int), 0 ≤ a → endP a t < 1000000000000000 → p.length + t.length < 1000000000000000 → Ev (fun k => laws_markProfileS.l0 k (p ++ t) a (p.length : Int)) (endP a t, p ++ mkP a t) := by
  induction t with
  | nil =>
    intro p a h0 h1 h2
    refine Ev.step ?_
    simp only [laws_markProfileS.l0]
    refine Ev.neg (by simp) ?_
    simpa [mkP, endP] using (Ev.pure (r := (a, p)))
  | cons s t ih =>
    intro p a h0 h1 h2
    have hg := endP_ge t (a + 1 + 1 + 2 * s.f2.length)
    rw [List.length_cons] at h2
    unfold endP at h1
    have := ih (p ++ [⟨mtx a, a + 1, mkG (a + 1 + 1) s.f2⟩]) (a + 1 + 1 + 2 * s.f2.length) (by omega) h1 (by rw [List.length_append]; simp; omega)
    refine Ev.step ?_
    simp only [laws_markProfileS.l0, rd_T52, getAt, upI a h0 (by omega), upI (a + 1) (by omega) (by omega)]
    refine Ev.pos (by simp; omega) (Ev.pos (by omega) (Ev.bind (markText_ev a (by omega)) (Ev.bind (markGenS_ev s.f2 (a + 1 + 1) (by omega) (by omega)) ?_)))
    simp only [setAt, len1 p (⟨mtx a, a + 1, mkG (a + 1 + 1) s.f2⟩ : S52) (by omega)]
    rw [mkP, endP]
    rw [List.append_assoc p _ (mkP _ t), List.singleton_append] at this
    exact this
theorem markProfileS_ev (t : List S52) (a : Int) (h0 : 0 ≤ a) (h1 : endP a t < 1000000000000000) (h2 : t.length < 1000000000000000) : Ev (fun k => laws_markProfileS.f k t a) (endP a t, mkP a t) := by
  unfold laws_markProfileS.f
  exact markProfileS_go t [] a h0 h1 (by simpa using h2)
theorem heldProfileS_go (t : List S52) : ∀ (p : List S52) (a : Int), 0 ≤ a → endP a t < 1000000000000000 → p.length + t.length < 1000000000000000 → Ev (fun k => laws_heldProfileS.l0 k (p ++ mkP a t) a (p.length : Int)) (endP a t) := by
  induction t with
  | nil =>
    intro p a h0 h1 h2
    refine Ev.step ?_
    simp only [laws_heldProfileS.l0]
    refine Ev.neg (by simp [mkP]) ?_
    simpa [endP] using (Ev.pure (r := a))
  | cons s t ih =>
    intro p a h0 h1 h2
    have hg := endP_ge t (a + 1 + 1 + 2 * s.f2.length)
    rw [List.length_cons] at h2
    unfold endP at h1
    have := ih (p ++ [⟨mtx a, a + 1, mkG (a + 1 + 1) s.f2⟩]) (a + 1 + 1 + 2 * s.f2.length) (by omega) h1 (by rw [List.length_append]; simp; omega)
    refine Ev.step ?_
    simp only [laws_heldProfileS.l0, mkP, rd_T52, getAt, upI a h0 (by omega), upI (a + 1) (by omega) (by omega), len1 p (⟨mtx a, a + 1, mkG (a + 1 + 1) s.f2⟩ : S52) (by omega)]
    refine Ev.pos (by simp; omega) (Ev.pos (by omega) (Ev.bind (markText_ev a (by omega)) (Ev.pos rfl (Ev.pos trivial (Ev.bind (heldGenS_ev s.f2 (a + 1 + 1) (by omega) (by omega)) (Ev.neg (by omega) ?_))))))
    rw [endP]
    rw [List.append_assoc, List.singleton_append] at this
    exact this
theorem heldProfileS_ev (t : List S52) (a : Int) (h0 : 0 ≤ a) (h1 : endP a t < 1000000000000000) (h2 : t.length < 1000000000000000) : Ev (fun k => laws_heldProfileS.f k (mkP a t) a) (endP a t) := by
  unfold laws_heldProfileS.f
  exact heldProfileS_go t [] a h0 h1 (by simpa using h2)
theorem l13Copy_ev (x : List S52) (hx : x.length ≤ 1048576) (ok : ∀ p ∈ x, p.f2.length ≤ 1048576) : Ev (fun k => spec_l13Copy.f k x) x := by
  unfold spec_l13Copy.f
  have key := downTo x.length (fun i => Ev (fun k => spec_l13Copy.l0 k x (x.take i) (i : Int)) x) ?_ ?_ 0 (by omega)
  · simpa using key
  · refine Ev.step ?_
    simp only [spec_l13Copy.l0, List.take_length]
    exact Ev.neg (by omega) Ev.pure
  · intro i hi ih
    have o := ok _ (List.getElem_mem hi)
    rw [List.take_add_one, List.getElem?_eq_getElem hi] at ih
    refine Ev.step ?_
    simp only [spec_l13Copy.l0, rd52 x i hi, upN i (by omega)]
    exact Ev.pos (by omega) (Ev.pos (by omega) (Ev.cons rfl (Ev.pos (by simp; omega) (Ev.pos (by rw [List.length_take]; omega) ih))))
theorem copyProfiles_ev (x : List S52) (hx : x.length ≤ 1048576) (ok : ∀ p ∈ x, p.f2.length ≤ 1048576) : Ev (fun k => impl_copyProfiles.f k x) x := by
  unfold impl_copyProfiles.f
  have key := downTo x.length (fun i => Ev (fun k => impl_copyProfiles.l0 k (x.take i) x (x.length : Int) (i : Int)) x) ?_ ?_ 0 (by omega)
  · simpa using key
  · refine Ev.step ?_
    simp only [impl_copyProfiles.l0, List.take_length]
    exact Ev.neg (by omega) Ev.pure
  · intro i hi ih
    have o := ok _ (List.getElem_mem hi)
    rw [List.take_add_one, List.getElem?_eq_getElem hi] at ih
    refine Ev.step ?_
    simp only [impl_copyProfiles.l0, rd52 x i hi, upN i (by omega)]
    exact Ev.pos (by omega) (Ev.pos (by omega) (Ev.pos (by omega) (Ev.cons rfl (Ev.pos (by simp; omega) (Ev.pos (by rw [List.length_take]; omega) ih)))))

-- Switch
/-- The path of the generation that is now, as both tell it. -/
theorem current_at (a : ByteArray) (b : Int) (x : List S56) (hx : x.length ≤ 1048576) : ∃ s, Ev (fun k => spec_l13Current.f k a b x) s ∧ Ev (fun k => impl_current.f k a b x) s ∧
    ((s = (⟨#[]⟩ : ByteArray) ∧ ∀ q (h : q < x.length), (x[q]).f0 ≠ b) ∨ ∃ q, ∃ h : q < x.length, (x[q]).f0 = b ∧ s = (x[q]).f1) := by
  unfold spec_l13Current.f impl_current.f spec_l13Gen.f
  have key := downTo x.length (fun i => ∃ (t : Int) (s : ByteArray), Ev (fun k => spec_l13Gen.l0 k b (i : Int) a b x) t ∧ Ev (fun k => impl_current.l0 k x (x.length : Int) (i : Int) a b x) s ∧ ((t < 0 ∧ s = (⟨#[]⟩ : ByteArray) ∧ ∀ q (h : q < x.length), i ≤ q → (x[q]).f0 ≠ b) ∨ ∃ q : Nat, ∃ h : q < x.length, t = (q : Int) ∧ (x[q]).f0 = b ∧ s = (x[q]).f1)) ?_ ?_ 0 (by omega)
  · obtain ⟨t, s, h1, h2, h3⟩ := key
    refine ⟨s, Ev.bind h1 ?_, h2, ?_⟩
    · rcases h3 with ⟨h3, rfl, _⟩ | ⟨q, hq, rfl, _, rfl⟩
      · exact Ev.pos h3 Ev.pure
      · rw [rd56 x q hq]
        exact Ev.neg (by omega) (Ev.pos (by omega) (Ev.pos (by omega) Ev.pure))
    · rcases h3 with ⟨_, e, h4⟩ | ⟨q, hq, _, e, e2⟩
      · exact Or.inl ⟨e, fun q h => h4 q h (by omega)⟩
      · exact Or.inr ⟨q, hq, e, e2⟩
  · refine ⟨-1, ⟨#[]⟩, Ev.step ?_, Ev.step ?_, Or.inl ⟨by omega, rfl, fun q h h2 => by omega⟩⟩
    · simp only [spec_l13Gen.l0]
      exact Ev.neg (by omega) Ev.pure
    · simp only [impl_current.l0]
      exact Ev.neg (by omega) Ev.pure
  · intro i hi ⟨t, s, h1, h2, h3⟩
    by_cases c : (x[i]).f0 = b
    · refine ⟨(i : Int), (x[i]).f1, Ev.step ?_, Ev.step ?_, Or.inr ⟨i, hi, rfl, c, rfl⟩⟩
      · simp only [spec_l13Gen.l0, rd56 x i hi]
        exact Ev.pos (by omega) (Ev.pos (by omega) (Ev.pos c Ev.pure))
      · simp only [impl_current.l0, rd56 x i hi]
        exact Ev.pos (by omega) (Ev.pos (by omega) (Ev.pos (by omega) (Ev.pos c Ev.pure)))
    · refine ⟨t, s, Ev.step ?_, Ev.step ?_, ?_⟩
      · simp only [spec_l13Gen.l0, rd56 x i hi, upN i (by omega)]
        exact Ev.pos (by omega) (Ev.pos (by omega) (Ev.neg c h1))
      · simp only [impl_current.l0, rd56 x i hi, upN i (by omega)]
        exact Ev.pos (by omega) (Ev.pos (by omega) (Ev.pos (by omega) (Ev.neg c h2)))
      · rcases h3 with ⟨h3, e, h4⟩ | h3
        · refine Or.inl ⟨h3, e, fun q h h5 => ?_⟩
          rcases Nat.eq_or_lt_of_le h5 with rfl | h6
          · exact c
          · exact h4 q h h6
        · exact Or.inr h3
/-- A new profile at its place. -/
def insAt (x : List S52) (i : Nat) (n : ByteArray) : List S52 := x.take i ++ (⟨n, 0, []⟩ : S52) :: x.drop i
def Fine (r : List S52) : Prop := r.length ≤ 1048576 ∧ ∀ p ∈ r, p.f2.length ≤ 1048576
/-- What is known of the element that is switched. -/
def Elem (p : S52) : Prop := p.f2.length ≤ 50 ∧ (p.f1 = 0 ∨ p.f2.any (fun g => g.f0 == p.f1) = true) ∧ ∀ q (h : q < p.f2.length), 1 ≤ ((p.f2)[q]).f0 ∧ ((p.f2)[q]).f0 ≤ 9007199254740992 ∧ adOk ((p.f2)[q]).f1 = true
theorem j3_ev (p0 : List S52) (f0 : Fine p0) (path : ByteArray) (x : List S52) (i : Nat) (hi : i < x.length) (hx : (x[i]).f2.length ≤ 50) (n : Int) :
    ∃ r b, Ev (fun k => spec_Switch.j3 p0 k path x (i : Int) n) (r, b) ∧ Ev (fun k => impl_Switch.j3 p0 k path x (i : Int) n) (r, b) ∧ Fine r := by
  obtain ⟨y, hy⟩ : ∃ y, y = (x.set i ⟨(x[i]).f0, (x[i]).f1, (x[i]).f2 ++ [⟨n, path⟩]⟩) := ⟨_, rfl⟩
  have hyl : y.length = x.length := by rw [hy, List.length_set]
  have hyi : i < y.length := by omega
  obtain ⟨z, hz⟩ : ∃ z, z = y.set i ⟨(y[i]).f0, n, (y[i]).f2⟩ := ⟨_, rfl⟩
  obtain ⟨b, hb, b1, b2⟩ := ProfilesOk_iff z
  have c1 := l13Copy_ev p0 f0.1 f0.2
  have c2 := copyProfiles_ev p0 f0.1 f0.2
  have fine : b = true → Fine z := by
    intro h
    obtain ⟨h1, h2⟩ := hb.1 h
    refine ⟨by omega, fun p hp => ?_⟩
    obtain ⟨q, hq, rfl⟩ := List.mem_iff_getElem.1 hp
    have := ((h2 q hq).1).2.1
    omega
  have sfin (r : List S52) (q : Bool) (h : Ev (fun k => if b = true then some (z, true) else (spec_l13Copy.f k p0).bind fun t => some (t, false)) (r, q)) : Ev (fun k => spec_Switch.j3 p0 k path x (i : Int) n) (r, q) := by
    refine Ev.step ?_
    simp only [spec_Switch.j3]
    refine Ev.cons rfl (Ev.pos (by omega) (Ev.pos (by omega) (Ev.pos (by rw [rd52 x i hi]; simp only [List.length_nil]; omega) (Ev.cons rfl (Ev.cons rfl (Ev.pos (by rw [rd52 x i hi]; simp only [List.length_append, List.length_nil, List.length_cons]; omega) (Ev.cons rfl (Ev.cons rfl ?_))))))))
    have e1 : x.set ((i : Int)).toNat ⟨(rd_T52 x (i : Int)).f0, (rd_T52 x (i : Int)).f1, ([] ++ (rd_T52 x (i : Int)).f2 ++ [(⟨n, path⟩ : S56)])⟩ = y := by
      rw [rd52 x i hi, hy, List.nil_append, Int.toNat_natCast]
    rw [e1, rd52 y i hyi, Int.toNat_natCast, ← hz]
    exact Ev.bind b1 h
  have ifin (r : List S52) (q : Bool) (h : Ev (fun k => if b = true then some (z, true) else (impl_copyProfiles.f k p0).bind fun t => some (t, false)) (r, q)) : Ev (fun k => impl_Switch.j3 p0 k path x (i : Int) n) (r, q) := by
    refine Ev.step ?_
    simp only [impl_Switch.j3]
    refine Ev.pos (by omega) (Ev.pos (by omega) (Ev.pos (by rw [rd52 x i hi]; omega) (Ev.cons rfl (Ev.cons rfl ?_))))
    have e1 : x.set ((i : Int)).toNat ⟨(rd_T52 x (i : Int)).f0, (rd_T52 x (i : Int)).f1, ((rd_T52 x (i : Int)).f2 ++ [(⟨n, path⟩ : S56)])⟩ = y := by
      rw [rd52 x i hi, hy, Int.toNat_natCast]
    rw [e1, rd52 y i hyi, Int.toNat_natCast, ← hz]
    exact Ev.bind b2 h
  by_cases c : b = true
  · exact ⟨z, true, sfin _ _ (Ev.pos c Ev.pure), ifin _ _ (Ev.pos c Ev.pure), fine c⟩
  · exact ⟨p0, false, sfin _ _ (Ev.neg c (Ev.bind c1 Ev.pure)), ifin _ _ (Ev.neg c (Ev.bind c2 Ev.pure)), f0⟩
theorem j2_ev (p0 : List S52) (f0 : Fine p0) (path : ByteArray) (x : List S52) (i : Nat) (hi : i < x.length) (hx : Elem x[i]) (F : Bool) (hF : F = true → x = p0) :
    ∃ r b, Ev (fun k => spec_Switch.j2 p0 k path x (i : Int) F) (r, b) ∧ Ev (fun k => impl_Switch.j2 p0 k path x (i : Int) F) (r, b) ∧ Fine r := by
  by_cases c : F = true
  · subst c
    obtain rfl := hF rfl
    refine ⟨x, true, Ev.step ?_, Ev.step ?_, f0⟩
    · simp only [spec_Switch.j2]
      exact Ev.pos trivial (Ev.bind (l13Copy_ev x f0.1 f0.2) Ev.pure)
    · simp only [impl_Switch.j2]
      exact Ev.pos trivial Ev.pure
  · obtain ⟨h1, h2, h3⟩ := hx
    by_cases g : 0 < (x[i]).f2.length
    · obtain ⟨m, hm⟩ : ∃ m, m = (x[i]).f2.length - 1 := ⟨_, rfl⟩
      have hml : m < (x[i]).f2.length := by omega
      have hw : wrap64 (((x[i]).f2.length : Int) - 1) = (m : Int) := by rw [w64 _ (by omega) (by omega)]; omega
      obtain ⟨r, b, r1, r2, r3⟩ := j3_ev p0 f0 path x i hi h1 (wrap64 (((x[i]).f2[m]).f0 + 1))
      refine ⟨r, b, Ev.step ?_, Ev.step ?_, r3⟩
      · simp only [spec_Switch.j2, rd52 x i hi, hw, rd56 (x[i]).f2 m hml]
        exact Ev.neg c (Ev.pos (by omega) (Ev.pos (by omega) (Ev.pos (by omega) (Ev.pos (by omega) (Ev.pos (by omega) r1)))))
      · simp only [impl_Switch.j2, rd52 x i hi, hw, rd56 (x[i]).f2 m hml]
        exact Ev.neg c (Ev.pos (by omega) (Ev.pos (by omega) (Ev.pos (by omega) (Ev.pos (by omega) (Ev.pos (by omega) r2)))))
    · obtain ⟨r, b, r1, r2, r3⟩ := j3_ev p0 f0 path x i hi h1 1
      refine ⟨r, b, Ev.step ?_, Ev.step ?_, r3⟩
      · simp only [spec_Switch.j2, rd52 x i hi]
        exact Ev.neg c (Ev.pos (by omega) (Ev.pos (by omega) (Ev.neg (by omega) r1)))
      · simp only [impl_Switch.j2, rd52 x i hi]
        exact Ev.neg c (Ev.pos (by omega) (Ev.pos (by omega) (Ev.neg (by omega) r2)))
theorem ba_nilList (s : ByteArray) : s.toList = ([] : List UInt8) ↔ s.size = 0 := by
  rw [← List.length_eq_zero_iff]
  have : s.toList.length = s.size := by rw [ByteArray.toList_eq]; exact Array.length_toList
  rw [this]
theorem ad_nonempty (s : ByteArray) (h : adOk s = true) : ¬ s.toList = ([] : List UInt8) := by
  rw [ba_nilList]
  simp only [adOk, Bool.and_eq_true, decide_eq_true_eq] at h
  omega
theorem j1_ev (p0 : List S52) (f0 : Fine p0) (path : ByteArray) (x : List S52) (i : Nat) (hi : i < x.length) (hx : Elem x[i]) (hnew : (x[i]).f1 ≠ 0 → x = p0) :
    ∃ r b, Ev (fun k => spec_Switch.j1 p0 k path x (i : Int)) (r, b) ∧ Ev (fun k => impl_Switch.j1 p0 k path x (i : Int)) (r, b) ∧ Fine r := by
  obtain ⟨s, s1, s2, s3⟩ := current_at (x[i]).f0 (x[i]).f1 (x[i]).f2 (by have := hx.1; omega)
  obtain ⟨F, hF⟩ : ∃ F : Bool, F = (!((x[i]).f1 == 0) && !(path.toList == []) && (s.toList == path.toList)) := ⟨_, rfl⟩
  obtain ⟨r, b, r1, r2, r3⟩ := j2_ev p0 f0 path x i hi hx F (fun h => by
    rw [hF, Bool.and_eq_true, Bool.and_eq_true] at h
    exact hnew (by simpa using h.1.1))
  refine ⟨r, b, Ev.step ?_, Ev.step ?_, r3⟩
  · simp only [spec_Switch.j1, rd52 x i hi]
    refine Ev.pos (by omega) (Ev.pos (by omega) ?_)
    by_cases c : path.toList = ([] : List UInt8)
    · have e : F = false := by rw [hF, c]; simp
      rw [e] at r1
      exact Ev.pos c r1
    · have e : (s.toList == path.toList) = F := by
        rw [hF]
        by_cases z : (x[i]).f1 = 0
        · rcases s3 with ⟨rfl, _⟩ | ⟨q, hq, e1, _⟩
          · have : ((⟨#[]⟩ : ByteArray).toList == path.toList) = false := beq_eq_false_iff_ne.mpr (fun h => c (h.symm.trans ((ba_nilList _).2 rfl)))
            rw [this]
            simp
          · exfalso
            have := (hx.2.2 q hq).1
            omega
        · have h1 : ((x[i]).f1 == 0) = false := by simpa using z
          have h2 : (path.toList == ([] : List UInt8)) = false := beq_eq_false_iff_ne.mpr c
          rw [h1, h2]
          simp
      rw [← e] at r1
      exact Ev.neg c (Ev.bind s1 r1)
  · simp only [impl_Switch.j1, rd52 x i hi]
    refine Ev.pos (by omega) (Ev.pos (by omega) ?_)
    by_cases z : (x[i]).f1 = 0
    · have e : F = false := by rw [hF, z]; simp
      rw [e] at r2
      exact Ev.pos z r2
    · have e : (s.toList == path.toList) = F := by
        rw [hF]
        have h1 : ((x[i]).f1 == 0) = false := by simpa using z
        by_cases c : path.toList = ([] : List UInt8)
        · rcases s3 with ⟨_, h4⟩ | ⟨q, hq, _, rfl⟩
          · exfalso
            rcases hx.2.1 with h5 | h5
            · exact z h5
            · rw [List.any_eq_true] at h5
              obtain ⟨g, hg, hge⟩ := h5
              obtain ⟨q, hq, rfl⟩ := List.mem_iff_getElem.1 hg
              exact h4 q hq (by simpa using hge)
          · rw [c]
            have := ad_nonempty _ (hx.2.2 q hq).2.2
            have h6 : ((((x[i]).f2)[q]).f1.toList == ([] : List UInt8)) = false := beq_eq_false_iff_ne.mpr this
            rw [h6]
            simp
        · have h2 : (path.toList == ([] : List UInt8)) = false := beq_eq_false_iff_ne.mpr c
          rw [h1, h2]
          simp
      rw [← e] at r2
      exact Ev.neg z (Ev.bind s2 r2)
theorem insP_at (x : List S52) (z : S52) (i : Nat) (n : ByteArray) (hi : i ≤ x.length) : insP (x ++ [z]) (i : Int) n = insAt x i n := by
  unfold insP insAt
  rw [Int.toNat_natCast, List.take_append_of_le_length hi, List.drop_append_of_le_length hi, List.dropLast_concat]
theorem l0_ev (p0 : List S52) (n path : ByteArray) (x : List S52) (hx : x.length ≤ 1048576)
    (hc : ∀ i, i ≤ x.length → ∃ r b, Ev (fun k => spec_Switch.j1 p0 k path (insAt x i n) (i : Int)) (r, b) ∧ Ev (fun k => impl_Switch.j1 p0 k path (insAt x i n) (i : Int)) (r, b) ∧ Fine r) :
    ∃ r b, Ev (fun k => spec_Switch.l0 p0 k n path x 0) (r, b) ∧ Ev (fun k => impl_Switch.l0 p0 k n path x 0) (r, b) ∧ Fine r := by
  have hl : ∀ i, i ≤ x.length → (insAt x i n).length = x.length + 1 := fun i hi => by unfold insAt; rw [List.length_append, List.length_cons, List.length_take, List.length_drop]; omega
  have es : ∀ i, i ≤ x.length → ([] ++ x.take i ++ [(⟨n, 0, []⟩ : S52)]) ++ x.drop i = insAt x i n := fun i hi => by unfold insAt; simp
  have stop_i : ∀ i, i ≤ x.length → ∀ r b, Ev (fun k => impl_Switch.j1 p0 k path (insAt x i n) (i : Int)) (r, b) → ∀ z : S52, Ev (fun k => impl_Switch.j1 p0 k path (insP (x ++ [z]) (i : Int) n) (i : Int)) (r, b) := by
    intro i hi r b h z
    rw [insP_at x z i n hi]
    exact h
  refine downTo x.length (fun i => ∃ r b, Ev (fun k => spec_Switch.l0 p0 k n path x (i : Int)) (r, b) ∧ Ev (fun k => impl_Switch.l0 p0 k n path x (i : Int)) (r, b) ∧ Fine r) ?_ ?_ 0 (by omega)
  · obtain ⟨r, b, r1, r2, r3⟩ := hc x.length (Nat.le_refl _)
    refine ⟨r, b, Ev.step ?_, Ev.step ?_, r3⟩
    · simp only [spec_Switch.l0, Int.toNat_natCast]
      refine Ev.neg (by omega) (Ev.cons rfl (Ev.pos (by omega) (Ev.pos (by omega) (Ev.cons rfl (Ev.pos (by simp; omega) (Ev.cons rfl (Ev.cons rfl (Ev.pos (by simp; omega) (Ev.cons rfl (Ev.cons rfl (Ev.pos (by simp; omega) ?_)))))))))))
      rw [es x.length (Nat.le_refl _)]
      exact r1
    · simp only [impl_Switch.l0, upN x.length (by omega)]
      exact Ev.neg (by omega) (Ev.pos (by omega) (Ev.cons rfl (Ev.pos (by omega) (Ev.pos (by rw [List.length_append, List.length_singleton]; omega) (Ev.pos (by omega) (Ev.pos (by rw [List.length_append, List.length_singleton]; omega) (Ev.pos (by rw [List.length_append, List.length_singleton]; omega) (stop_i _ (Nat.le_refl _) _ _ r2 _))))))))
  · intro i hi ⟨r, b, r1, r2, r3⟩
    by_cases c : Op.bytesLess ((x[i]).f0.toList) n.toList = true
    · refine ⟨r, b, Ev.step ?_, Ev.step ?_, r3⟩
      · simp only [spec_Switch.l0, rd52 x i hi, upN i (by omega)]
        exact Ev.pos (by omega) (Ev.pos (by omega) (Ev.pos c r1))
      · simp only [impl_Switch.l0, rd52 x i hi, upN i (by omega)]
        exact Ev.pos (by omega) (Ev.pos (by omega) (Ev.pos c r2))
    · obtain ⟨r, b, r1, r2, r3⟩ := hc i (by omega)
      refine ⟨r, b, Ev.step ?_, Ev.step ?_, r3⟩
      · simp only [spec_Switch.l0, rd52 x i hi, Int.toNat_natCast]
        refine Ev.pos (by omega) (Ev.pos (by omega) (Ev.neg c (Ev.cons rfl (Ev.pos (by omega) (Ev.cons rfl (Ev.pos (by simp; omega) (Ev.cons rfl (Ev.cons rfl (Ev.pos (by simp; omega) (Ev.cons rfl (Ev.cons rfl (Ev.pos (by simp; omega) ?_))))))))))))
        rw [es i (by omega)]
        exact r1
      · simp only [impl_Switch.l0, rd52 x i hi, upN i (by omega)]
        exact Ev.pos (by omega) (Ev.pos (by omega) (Ev.neg c (Ev.pos (by omega) (Ev.cons rfl (Ev.pos (by omega) (Ev.pos (by rw [List.length_append, List.length_singleton]; omega) (Ev.pos (by rw [List.length_append, List.length_singleton]; omega) (Ev.pos (by rw [List.length_append, List.length_singleton]; omega) (stop_i _ (by omega) _ _ r2 _)))))))))
theorem Switch_ev (x : List S52) (n path : ByteArray) (hx : x.length ≤ 1048576) (ok : ∀ p ∈ x, p.f2.length ≤ 1048576) :
    ∃ r b, Ev (fun k => spec_Switch.f k x n path) (r, b) ∧ Ev (fun k => impl_Switch.f k x n path) (r, b) ∧ r.length ≤ 1048576 ∧ ∀ p ∈ r, p.f2.length ≤ 1048576 := by
  unfold spec_Switch.f impl_Switch.f
  obtain ⟨b, hb, b1, b2⟩ := ProfilesOk_iff x
  by_cases c : ¬ b = true
  · exact ⟨_, _, Ev.bind b1 (Ev.neg c Ev.pure), Ev.bind b2 (Ev.neg c Ev.pure), by simp, by simp⟩
  replace c := Classical.not_not.mp c
  have hps := (hb.1 c).2
  have s1 := l13Copy_ev x hx ok
  have s2 := copyProfiles_ev x hx ok
  obtain ⟨t, t1, t2, t3⟩ := findProfile_ev x hx n
  by_cases d : t < 0
  · obtain ⟨r, q, r1, r2, r3⟩ := l0_ev x n path x hx (fun i hi => by
      have hl : i < (insAt x i n).length := by unfold insAt; rw [List.length_append, List.length_cons, List.length_take, List.length_drop]; omega
      have he : (insAt x i n)[i] = ⟨n, 0, []⟩ := by
        have h2 : (insAt x i n)[i]? = some (⟨n, 0, []⟩ : S52) := by
          unfold insAt
          rw [List.getElem?_append_right (by rw [List.length_take]; omega), List.length_take, Nat.min_eq_left hi, Nat.sub_self]
          rfl
        exact (List.getElem?_eq_some_iff.1 h2).2
      refine j1_ev x ⟨hx, ok⟩ path (insAt x i n) i hl ?_ ?_
      · rw [he]
        exact ⟨by simp, Or.inl rfl, fun q h => absurd h (by simp)⟩
      · rw [he]
        exact fun h => absurd rfl h)
    exact ⟨r, q, Ev.bind b1 (Ev.pos c (Ev.bind s1 (Ev.bind t1 (Ev.pos d r1)))), Ev.bind b2 (Ev.pos c (Ev.bind s2 (Ev.bind t2 (Ev.pos d r2)))), r3.1, r3.2⟩
  · have hl := t3 (by omega)
    obtain ⟨i, rfl⟩ : ∃ i : Nat, t = i := ⟨t.toNat, by omega⟩
    have hi : i < x.length := by omega
    obtain ⟨⟨_, p2, p3, p4⟩, _⟩ := hps i hi
    obtain ⟨r, q, r1, r2, r3⟩ := j1_ev x ⟨hx, ok⟩ path x i hi ⟨p2, p3, fun q h => ⟨(p4 q h).1, (p4 q h).2.1, (p4 q h).2.2.1⟩⟩ (fun _ => rfl)
    exact ⟨r, q, Ev.bind b1 (Ev.pos c (Ev.bind s1 (Ev.bind t1 (Ev.neg d r1)))), Ev.bind b2 (Ev.pos c (Ev.bind s2 (Ev.bind t2 (Ev.neg d r2)))), r3.1, r3.2⟩

theorem FnExactSwitch : laws_FnExactSwitch.Pure := by
  intro l n p hl _ _
  refine Ev.at ?_
  unfold laws_FnExactSwitch.f
  by_cases c1 : (n.size : Int) > 1048576
  · exact Ev.pos c1 Ev.pure
  by_cases c2 : (p.size : Int) > 1048576
  · exact Ev.neg c1 (Ev.pos c2 Ev.pure)
  obtain ⟨t, ht, hb⟩ := szProfileS_ev l 1048576 (by omega) (by omega) hl.1 hl.2
  refine Ev.neg c1 (Ev.neg c2 (Ev.bind ht ?_))
  by_cases h0 : t < 0
  · exact Ev.pos h0 Ev.pure
  obtain ⟨hb1, hs⟩ := hb (by omega)
  have hc := toProfileS_ev l (by omega) hs
  have hx : (l.map cProfile).length ≤ 1048576 := by simp; omega
  have ok : ∀ p ∈ l.map cProfile, p.f2.length ≤ 1048576 := by
    intro g hg
    obtain ⟨q, hq, rfl⟩ := List.mem_map.1 hg
    simpa [cProfile] using hs q hq
  generalize l.map cProfile = x at *
  obtain ⟨r, b, r1, r2, r3, r4⟩ := Switch_ev x n p hx ok
  have ex := eqProfileS_ev x hx ok
  have er := eqProfileS_ev r r3 r4
  have z1 := endP_le 1048576 x 1 ok
  have z2 := endP_ge x 1
  have z3 := endP_le 1048576 r 1 r4
  have z4 := endP_ge r 1
  have m1 := markProfileS_ev x 1 (by omega) (by omega) (by omega)
  have m2 := markProfileS_ev r 1 (by omega) (by omega) (by omega)
  have m3 := heldProfileS_ev r 1 (by omega) (by omega) (by omega)
  refine Ev.neg h0 (Ev.bind hc (Ev.bind r1 (Ev.bind hc (Ev.bind r2 (Ev.bind er (Ev.pos rfl (Ev.pos rfl (Ev.bind hc (Ev.bind ex (Ev.pos rfl (Ev.bind m1 (Ev.neg (by omega) (Ev.bind er (Ev.pos rfl (Ev.bind m2 (Ev.bind m3 (Ev.neg (by omega) (Ev.pos rfl (Ev.bind hc (Ev.bind r2 (Ev.bind er (Ev.pos rfl (Ev.pos rfl (Ev.bind m3 (Ev.pos rfl Ev.pure)))))))))))))))))))))))))

end Go.Proofs.Ytbgnjnlecpdfaaa.Pure
