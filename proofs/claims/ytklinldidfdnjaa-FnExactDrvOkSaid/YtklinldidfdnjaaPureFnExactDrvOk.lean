/- The pure statement of FnExactDrvOk: both sides see the same faults, in another order. -/
import Derived.Test.YtklinldidfdnjaaPFnExactDrvOkx0
import Derived.Test.YtklinldidfdnjaaPFnExactDrvOkx1
import Derived.Test.YtklinldidfdnjaaPFnExactDrvOkx2
import Derived.Test.YtklinldidfdnjaaPFnExactDrvOkx3
import Derived.Test.YtklinldidfdnjaaPFnExactDrvOkx4
import Derived.Test.YtklinldidfdnjaaPFnExactDrvOkx5
import Derived.Test.YtklinldidfdnjaaPFnExactDrvOkx6
import Derived.Test.YtklinldidfdnjaaPFnExactDrvOkx7
import Derived.Test.YtklinldidfdnjaaPFnExactDrvOkx8
import Derived.Test.YtklinldidfdnjaaPFnExactDrvOkx9
import Derived.Laws.BitsLemmas
import Derived.Laws.Bits64b
import Derived.Lib.Bytealg
namespace Go.Proofs.Ytklinldidfdnjaa.Pure
open Go.RowKit Go.Proofs.YtklinldidfdnjaaW.PrintWords Go.Proofs.YtklinldidfdnjaaW.PrintLast Go.Proofs.YtklinldidfdnjaaW.PrintMore Go.Proofs.Ytklinldidfdnjaa.PFnExactDrvOk

theorem u64w (n : Int) (h0 : 0 ≤ n) (h1 : n < 18446744073709551616) : IntKind.u64.wrap n = n := by
  simp [IntKind.wrap, IntKind.signed, IntKind.bits]; omega
theorem i64w (n : Int) (h0 : -9223372036854775808 ≤ n) (h1 : n < 9223372036854775808) : IntKind.i64.wrap n = n := by
  rw [IntKind.wrap_i64]; omega
theorem w64 (n : Int) (h0 : -9223372036854775808 ≤ n) (h1 : n < 9223372036854775808) : wrap64 n = n := by unfold wrap64; omega
theorem up1 (i : Int) (h0 : 0 ≤ i) (h : i < 9223372036854775807) : wrap64 (i + 1) = i + 1 := by unfold wrap64; omega
theorem u64_lo (n : Int) : 0 ≤ IntKind.u64.wrap n := by simp [IntKind.wrap, IntKind.signed, IntKind.bits]; omega
theorem u64_hi (n : Int) : IntKind.u64.wrap n < 18446744073709551616 := by simp [IntKind.wrap, IntKind.signed, IntKind.bits]; omega
theorem u64_wf (x : Int) (h : (Lit.int .u64 x).wf = true) : 0 ≤ x ∧ x < 18446744073709551616 := by
  simp [Lit.wf, IntKind.min, IntKind.max, IntKind.signed, IntKind.bits] at h; omega
theorem and31 (x : Int) (h0 : 0 ≤ x) (h1 : x < 18446744073709551616) : Go.bits .and .u64 x 31 = x % 32 := by
  have := bits_mask .u64 64 (by decide) (fun n a b => u64w n a (by simpa using b)) 5 (by decide) x h0 (by simpa using h1)
  simpa using this
theorem or5 (a c : Int) (h0 : 0 ≤ a) (h1 : a * 32 < 18446744073709551616) (hc0 : 0 ≤ c) (hc : c < 32) : Go.bits .or .u64 (a * 32) c = a * 32 + c := by
  have := bits_join .u64 64 (by decide) (fun n x y => u64w n x (by simpa using y)) 5 (a * 32) c (by omega) (by omega) (by simpa using h1) hc0 (by simpa using hc) (by simp; omega)
  exact this
theorem bt_list (l : List UInt8) (i : Int) : bt ⟨l.toArray⟩ i = ((l.getD i.toNat 0).toNat : Int) := by
  unfold bt
  split
  · rename_i h
    have h' : i.toNat < l.length := by simpa [ByteArray.size] using h
    rw [List.getD_eq_getElem?_getD, List.getElem?_eq_getElem h']
    rfl
  · rename_i h
    have h' : l.length ≤ i.toNat := by simpa [ByteArray.size] using h
    rw [List.getD_eq_getElem?_getD, List.getElem?_eq_none h']; rfl
/-- The alphabet of chapter 1. -/
def alpha : ByteArray := ⟨#[48, 49, 50, 51, 52, 53, 54, 55, 56, 57, 97, 98, 99, 100, 102, 103, 104, 105, 106, 107, 108, 109, 110, 112, 113, 114, 115, 118, 119, 120, 121, 122]⟩
/-- The n-th digit from the right, as its byte. -/
def dg (x : Int) (n : Nat) : Int := bt alpha (x / 2 ^ (5 * n) % 32)
/-- The last n digits. -/
def ds (x : Int) : Nat → List Int
  | 0 => []
  | n + 1 => dg x n :: ds x n
theorem ds_length (x : Int) : ∀ n, (ds x n).length = n
  | 0 => rfl
  | n + 1 => by simp [ds, ds_length x n]
/-- The thirteen bytes. -/
def word (x : Int) : ByteArray := strOfNums (ds x 13)
theorem div_lo (x : Int) (h0 : 0 ≤ x) (n : Nat) : 0 ≤ x / 2 ^ n := Int.ediv_nonneg h0 (by have := Nat.two_pow_pos n; exact_mod_cast Nat.zero_le _)
theorem div_hi (x : Int) (h0 : 0 ≤ x) (n : Nat) : x / 2 ^ n ≤ x := Int.ediv_le_self _ h0
theorem shr5 (x : Int) (n : Nat) (hn : n ≤ 12) : shr .u64 x (5 * n) = x / 2 ^ (5 * n) := by
  unfold shr
  have e : (5 * (n : Int)).toNat = 5 * n := by omega
  rw [e, Nat.min_eq_left (by simp [IntKind.bits]; omega)]
/-- What a byte is worth as a digit; -1: it is none. -/
def dv (c : Int) : Int := Lib.indexByte alpha.data.toList c.toNat.toUInt8
theorem dv_all : ∀ c : Fin 256, -1 ≤ dv (c.val : Int) ∧ dv (c.val : Int) < 32 := by decide +kernel
theorem dv_bounds (c : Int) (h0 : 0 ≤ c) (h1 : c ≤ 255) : -1 ≤ dv c ∧ dv c < 32 := by
  have := dv_all ⟨c.toNat, by omega⟩
  simpa [Int.toNat_of_nonneg h0] using this
/-- The number that thirteen digits tell, from the i-th on. -/
def rwGo (s : ByteArray) : Nat → Int → Nat → Int × Bool
  | 0, x, _ => (x, true)
  | d + 1, x, i => if dv (bt s i) < 0 then (0, false) else if i = 0 ∧ dv (bt s i) > 15 then (0, false) else rwGo s d (x * 32 + dv (bt s i)) (i + 1)
def rw32 (s : ByteArray) : Int × Bool := if s.size = 13 then rwGo s 13 0 0 else (0, false)
/-- The bound that the digits so far keep. -/
def lim (d : Nat) : Int := if d = 13 then 1 else 2 ^ (64 - 5 * d)
theorem lim_all : ∀ d : Fin 13, lim d.val ≤ 18446744073709551616 ∧ 0 < lim d.val ∧ (d.val < 12 → lim (d.val + 1) * 32 = lim d.val) ∧ (d.val = 12 → lim d.val = 16) ∧ lim (d.val + 1) * 32 ≤ 18446744073709551616 := by decide +kernel
theorem word_size (x : Int) : (word x).size = 13 := by unfold word; rw [strOfNums_size, ds_length]

-- Ev
/-- With fuel enough the run answers r. -/
def Ev {α : Type} (f : Nat → Option α) (r : α) : Prop := ∃ K, ∀ k, K ≤ k → f k = some r
theorem Ev.pure {α : Type} {r : α} : Ev (fun _ => some r) r := ⟨0, fun _ _ => rfl⟩
theorem Ev.of {α : Type} {f : Nat → Option α} {r : α} (N : Nat) (h : ∀ k, N ≤ k → f k = some r) : Ev f r := ⟨N, h⟩
theorem Ev.step {α : Type} {f : Nat → Option α} {r : α} (h : Ev (fun k => f (k + 1)) r) : Ev f r := by
  obtain ⟨K, h⟩ := h
  refine ⟨K + 1, fun k hk => ?_⟩
  obtain ⟨m, rfl⟩ : ∃ m, k = m + 1 := ⟨k - 1, by omega⟩
  exact h m (by omega)
theorem Ev.bind {α β : Type} {f : Nat → Option α} {g : Nat → α → Option β} {a : α} {r : β} (h : Ev f a) (h2 : Ev (fun k => g k a) r) : Ev (fun k => (f k).bind (g k)) r := by
  obtain ⟨K, h⟩ := h
  obtain ⟨K2, h2⟩ := h2
  refine ⟨K + K2, fun k hk => ?_⟩
  show (f k).bind (g k) = some r
  rw [h k (by omega)]
  exact h2 k (by omega)
theorem Ev.cons {α β : Type} {x : Option α} {g : Nat → α → Option β} {a : α} {r : β} (h : x = some a) (h2 : Ev (fun k => g k a) r) : Ev (fun k => x.bind (g k)) r := by
  subst h
  exact h2
theorem Ev.pos {α : Type} {c : Prop} [Decidable c] {f g : Nat → Option α} {r : α} (hc : c) (h : Ev f r) : Ev (fun k => if c then f k else g k) r := by
  simpa only [if_pos hc] using h
theorem Ev.neg {α : Type} {c : Prop} [Decidable c] {f g : Nat → Option α} {r : α} (hc : ¬ c) (h : Ev g r) : Ev (fun k => if c then f k else g k) r := by
  simpa only [if_neg hc] using h
theorem Ev.at {α : Type} {f : Nat → Option α} {r : α} (h : Ev f r) : ∃ k, f k = some r := by
  obtain ⟨K, h⟩ := h
  exact ⟨K, h K (Nat.le_refl _)⟩
theorem Ev.uniq {α : Type} {f : Nat → Option α} {r s : α} (h : Ev f r) (h2 : Ev f s) : r = s := by
  obtain ⟨K, h⟩ := h
  obtain ⟨K2, h2⟩ := h2
  have a := h (K + K2) (by omega)
  have b := h2 (K + K2) (by omega)
  rw [a] at b
  exact Option.some.inj b
/-- From the end down. -/
theorem downTo (n : Nat) (P : Nat → Prop) (base : P n) (step : ∀ i, i < n → P (i + 1) → P i) : ∀ i, i ≤ n → P i := by
  intro i hi
  obtain ⟨d, rfl⟩ : ∃ d, i = n - d := ⟨n - i, by omega⟩
  clear hi
  induction d with
  | zero => exact base
  | succ d ih =>
    by_cases h : d < n
    · refine step _ (by omega) ?_
      have e : n - (d + 1) + 1 = n - d := by omega
      rw [e]; exact ih
    · have e : n - (d + 1) = n - d := by omega
      rw [e]; exact ih
theorem upN (i : Nat) (h : i < 1000000000000000) : wrap64 ((i : Int) + 1) = ((i + 1 : Nat) : Int) := by unfold wrap64; omega
theorem dnN (i : Nat) (h : i < 1000000000000000) (h0 : 0 < i) : wrap64 ((i : Int) - 1) = ((i - 1 : Nat) : Int) := by unfold wrap64; omega
/-- A loop that sets place by place leaves the row's picture. -/
theorem setLoop {A B : Type} (L : Nat → List B → Int → Option (List B)) (x : List A) (c : A → B)
    (step : ∀ (i : Nat) (y : List B) (r : List B) (h : i < x.length), y.length = x.length → Ev (fun k => L k (y.set i (c x[i])) ((i + 1 : Nat) : Int)) r → Ev (fun k => L k y (i : Int)) r)
    (stop : ∀ y : List B, y.length = x.length → Ev (fun k => L k y ((x.length : Nat) : Int)) y) :
    ∀ y : List B, y.length = x.length → Ev (fun k => L k y 0) (x.map c) := by
  have main := downTo x.length (fun i => ∀ y : List B, y.length = x.length → y.take i = (x.map c).take i → Ev (fun k => L k y (i : Int)) (x.map c)) ?_ ?_
  · intro y hy
    exact main 0 (by omega) y hy (by simp)
  · intro y hy he
    rw [List.take_of_length_le (by omega), List.take_of_length_le (by simp)] at he
    have := stop y hy
    rw [he] at this
    rw [he] at hy
    exact he ▸ stop y (by rw [he]; exact hy)
  · intro i hi ih y hy he
    refine step i y _ hi hy (ih _ (by simp [hy]) ?_)
    rw [List.take_add_one, List.take_add_one, List.take_set_of_le (by omega), he, List.getElem?_set_self (by omega)]
    simp [List.getElem?_eq_getElem hi]
theorem countLoop {α : Type} (L : Nat → Int → Option α) (n : Nat) (r : α) (step : ∀ i : Nat, i < n → Ev (fun k => L k ((i + 1 : Nat) : Int)) r → Ev (fun k => L k (i : Int)) r) (stop : Ev (fun k => L k ((n : Nat) : Int)) r) : Ev (fun k => L k 0) r :=
  downTo n (fun i => Ev (fun k => L k (i : Int)) r) stop (fun i hi h => step i hi h) 0 (by omega)

-- NameOk
def nmByte (c : Int) : Bool := (decide (97 ≤ c) && decide (c ≤ 122)) || (decide (65 ≤ c) && decide (c ≤ 90)) || (decide (48 ≤ c) && decide (c ≤ 57)) || c == 45 || c == 95 || c == 46 || c == 43
/-- Are n bytes from the i-th on those of a name? -/
def nmGo (s : ByteArray) : Nat → Nat → Bool
  | 0, _ => true
  | d + 1, i => nmByte (bt s i) && nmGo s d (i + 1)
/-- A name. -/
def nmOk (s : ByteArray) : Bool := decide (1 ≤ s.size) && decide (s.size ≤ 60) && !(bt s 0 == 46) && nmGo s s.size 0
theorem l1Letter_f (c : Int) : spec_l1Letter.f c = some ((decide (97 ≤ c) && decide (c ≤ 122)) || (decide (65 ≤ c) && decide (c ≤ 90))) := by
  unfold spec_l1Letter.f
  by_cases h1 : 97 ≤ c <;> by_cases h2 : c ≤ 122 <;> by_cases h3 : 65 ≤ c <;> by_cases h4 : c ≤ 90 <;> simp [h1, h2, h3, h4] <;> omega
theorem l1Digit_f (c : Int) : spec_l1Digit.f c = some (decide (48 ≤ c) && decide (c ≤ 57)) := by
  unfold spec_l1Digit.f
  by_cases h1 : 48 ≤ c <;> by_cases h2 : c ≤ 57 <;> simp [h1, h2]
theorem letter_f (c : Int) : impl_letter.f c = some ((decide (97 ≤ c) && decide (c ≤ 122)) || (decide (65 ≤ c) && decide (c ≤ 90))) := by
  unfold impl_letter.f
  by_cases h1 : 97 ≤ c <;> by_cases h2 : c ≤ 122 <;> by_cases h3 : 65 ≤ c <;> by_cases h4 : c ≤ 90 <;> simp [h1, h2, h3, h4] <;> omega
theorem digit_f (c : Int) : impl_digit.f c = some (decide (48 ≤ c) && decide (c ≤ 57)) := by
  unfold impl_digit.f
  by_cases h1 : 48 ≤ c <;> by_cases h2 : c ≤ 57 <;> simp [h1, h2]
theorem spec_NameOk_loop (s : ByteArray) (hs : s.size ≤ 60) : ∀ (d i k : Nat), i + d = s.size → d < k → spec_NameOk.l0 k s (i : Int) = some (nmGo s d i) := by
  intro d
  induction d with
  | zero =>
    intro i k hi hk
    obtain ⟨k, rfl⟩ : ∃ m, k = m + 1 := ⟨k - 1, by omega⟩
    simp only [spec_NameOk.l0]; rw [if_neg (by omega)]; rfl
  | succ d ih =>
    intro i k hi hk
    obtain ⟨k, rfl⟩ : ∃ m, k = m + 1 := ⟨k - 1, by omega⟩
    have e3 : wrap64 ((i : Int) + 1) = ((i + 1 : Nat) : Int) := by rw [up1 _ (by omega) (by omega)]; omega
    simp only [spec_NameOk.l0, nmGo, nmByte]
    rw [if_pos (by omega), if_pos (by omega), l1Letter_f, l1Digit_f, e3, ih (i + 1) k (by omega) (by omega)]
    simp only [Option.bind_some]
    generalize bt s (i : Int) = c
    generalize nmGo s d (i + 1) = g
    generalize ((decide (97 ≤ c) && decide (c ≤ 122)) || (decide (65 ≤ c) && decide (c ≤ 90))) = p
    generalize (decide (48 ≤ c) && decide (c ≤ 57)) = q
    cases p <;> cases q <;> simp
    by_cases h1 : c = 45
    · simp [h1]
    · by_cases h2 : c = 95
      · simp [h2]
      · by_cases h3 : c = 46
        · simp [h3]
        · by_cases h4 : c = 43
          · simp [h4]
          · simp [h1, h2, h3, h4]
theorem spec_NameOk_f (s : ByteArray) (k : Nat) (hk : 63 ≤ k) : spec_NameOk.f k s = some (nmOk s) := by
  obtain ⟨k, rfl⟩ : ∃ m, k = m + 1 := ⟨k - 1, by omega⟩
  unfold spec_NameOk.f nmOk
  simp only [spec_NameOk.j0]
  by_cases h1 : (s.size : Int) < 1
  · rw [if_pos h1]
    have : ¬ 1 ≤ s.size := by omega
    simp [this]
  · rw [if_neg h1]
    have e1 : 1 ≤ s.size := by omega
    by_cases h2 : (s.size : Int) > 60
    · rw [if_pos h2]
      have : ¬ s.size ≤ 60 := by omega
      simp [this]
    · rw [if_neg h2, if_pos (by omega)]
      have e2 : s.size ≤ 60 := by omega
      have h := spec_NameOk_loop s e2 s.size 0 k (by omega) (by omega)
      rw [show ((0 : Nat) : Int) = 0 from rfl] at h
      rw [h]
      by_cases h3 : bt s 0 = 46
      · simp [h3]
      · simp [h3, e1, e2]
theorem w32_byte (s : ByteArray) (i : Int) : wrap32 (bt s i) = bt s i := by
  have := bt_range s i
  unfold wrap32; omega
theorem impl_NameOk_loop (s : ByteArray) (hs : s.size ≤ 60) : ∀ (d i k : Nat), i + d = s.size → d < k → impl_NameOk.l0 k s (s.size : Int) (i : Int) = some (nmGo s d i) := by
  intro d
  induction d with
  | zero =>
    intro i k hi hk
    obtain ⟨k, rfl⟩ : ∃ m, k = m + 1 := ⟨k - 1, by omega⟩
    simp only [impl_NameOk.l0]; rw [if_neg (by omega)]; rfl
  | succ d ih =>
    intro i k hi hk
    obtain ⟨k, rfl⟩ : ∃ m, k = m + 1 := ⟨k - 1, by omega⟩
    have e3 : wrap64 ((i : Int) + 1) = ((i + 1 : Nat) : Int) := by rw [up1 _ (by omega) (by omega)]; omega
    have hb := bt_range s (i : Int)
    have e4 : strings_ContainsRune.f (⟨#[45, 95, 46, 43]⟩ : ByteArray) (bt s (i : Int)) = some (bt s (i : Int) == 45 || bt s (i : Int) == 95 || bt s (i : Int) == 46 || bt s (i : Int) == 43) := by
      unfold strings_ContainsRune.f
      rw [if_pos (by rw [Lib.toList_data]), if_pos (by omega)]
    simp only [impl_NameOk.l0, nmGo, nmByte]
    rw [if_pos (by omega), if_pos (by omega), if_pos (by omega), letter_f, digit_f, w32_byte, e4, e3, ih (i + 1) k (by omega) (by omega)]
    simp only [Option.bind_some]
    generalize bt s (i : Int) = c
    generalize nmGo s d (i + 1) = g
    generalize ((decide (97 ≤ c) && decide (c ≤ 122)) || (decide (65 ≤ c) && decide (c ≤ 90))) = p
    generalize (decide (48 ≤ c) && decide (c ≤ 57)) = q
    generalize (c == 45) = r1
    generalize (c == 95) = r2
    generalize (c == 46) = r3
    generalize (c == 43) = r4
    cases p <;> cases q <;> cases r1 <;> cases r2 <;> cases r3 <;> cases r4 <;> simp
theorem impl_NameOk_f (s : ByteArray) (k : Nat) (hk : 63 ≤ k) : impl_NameOk.f k s = some (nmOk s) := by
  obtain ⟨k, rfl⟩ : ∃ m, k = m + 1 := ⟨k - 1, by omega⟩
  unfold impl_NameOk.f nmOk
  simp only [impl_NameOk.j0]
  by_cases h1 : (s.size : Int) < 1
  · rw [if_pos h1]
    have : ¬ 1 ≤ s.size := by omega
    simp [this]
  · rw [if_neg h1]
    have e1 : 1 ≤ s.size := by omega
    by_cases h2 : (s.size : Int) > 60
    · rw [if_pos h2]
      have : ¬ s.size ≤ 60 := by omega
      simp [this]
    · rw [if_neg h2, if_pos (by omega)]
      have e2 : s.size ≤ 60 := by omega
      have h := impl_NameOk_loop s e2 s.size 0 k (by omega) (by omega)
      rw [show ((0 : Nat) : Int) = 0 from rfl] at h
      rw [h]
      by_cases h3 : bt s 0 = 46
      · simp [h3]
      · simp [h3, e1, e2]

-- ReadWord32
theorem l1Index_all : ∀ c : Fin 256, spec_l1Index.f 40 (c.val : Int) = some (dv (c.val : Int)) := by decide +kernel
theorem l1Index_f (c : Int) (h0 : 0 ≤ c) (h1 : c ≤ 255) (k : Nat) (hk : 40 ≤ k) : spec_l1Index.f k c = some (dv c) := by
  have := l1Index_all ⟨c.toNat, by omega⟩
  simp only [Int.toNat_of_nonneg h0] at this
  exact at_rounds (g := fun k => spec_l1Index.f k c) (fun k => spec_l1Index.mono c k) hk this
theorem rw_both (s : ByteArray) (hs : s.size = 13) : ∀ (d i : Nat) (x : Int) (k : Nat), i + d = 13 → 0 ≤ x → x < lim d → d + 41 < k →
    spec_ReadWord32.l0 k s x (i : Int) = some (rwGo s d x i) ∧ impl_ReadWord32.l0 k s x (s.size : Int) (i : Int) = some (rwGo s d x i) := by
  intro d
  induction d with
  | zero =>
    intro i x k hi hx hl hk
    obtain ⟨k, rfl⟩ : ∃ m, k = m + 1 := ⟨k - 1, by omega⟩
    constructor
    · simp only [spec_ReadWord32.l0]; rw [if_neg (by omega)]; rfl
    · simp only [impl_ReadWord32.l0]; rw [if_neg (by omega)]; rfl
  | succ d ih =>
    intro i x k hi hx hl hk
    obtain ⟨k, rfl⟩ : ∃ m, k = m + 1 := ⟨k - 1, by omega⟩
    obtain ⟨b0, b1⟩ := bt_range s (i : Int)
    obtain ⟨t0, t1⟩ := dv_bounds (bt s (i : Int)) b0 b1
    have hf := l1Index_f (bt s (i : Int)) b0 b1 k (by omega)
    have hg : strings_IndexByte.f alpha (bt s (i : Int)) = some (dv (bt s (i : Int))) := rfl
    unfold alpha at hg
    have e3 : ((i : Int) + 1) = ((i + 1 : Nat) : Int) := by omega
    obtain ⟨m0, m1, m2, m3, m4⟩ := lim_all ⟨d, by omega⟩
    simp only at m0 m1 m2 m3 m4
    constructor
    · simp only [spec_ReadWord32.l0, rwGo]
      rw [if_pos (by omega), if_pos (by omega), if_pos (by omega), hf]
      simp only [Option.bind_some]
      by_cases h1 : dv (bt s (i : Int)) < 0
      · rw [if_pos h1, if_pos h1]
      · have e4 : IntKind.u64.wrap (IntKind.u64.wrap (x * 32) + IntKind.u64.wrap (dv (bt s (i : Int)))) = x * 32 + dv (bt s (i : Int)) := by
          rw [u64w (x * 32) (by omega) (by omega), u64w (dv _) (by omega) (by omega)]
          by_cases hd : d = 12
          · subst hd
            have hx0 : x = 0 := by simp [lim] at hl; omega
            subst hx0
            exact u64w _ (by omega) (by omega)
          · have := m2 (by omega)
            exact u64w _ (by omega) (by omega)
        rw [if_neg h1, if_neg h1, e4, up1 _ (by omega) (by omega), e3]
        by_cases h0 : i = 0
        · subst h0
          rw [if_pos (by omega)]
          by_cases h2 : dv (bt s ((0 : Nat) : Int)) > 15
          · rw [if_pos h2, if_pos ⟨rfl, h2⟩]
          · have hx0 : x = 0 := by
              have : d = 12 := by omega
              subst this; simp [lim] at hl; omega
            have := m3 (by omega)
            rw [if_neg h2, if_neg (by rintro ⟨_, h⟩; exact h2 h)]
            exact (ih _ _ k (by omega) (by omega) (by omega) (by omega)).1
        · have := m2 (by omega)
          rw [if_neg (by omega), if_neg (by rintro ⟨h, _⟩; exact h0 h)]
          exact (ih _ _ k (by omega) (by omega) (by omega) (by omega)).1
    · simp only [impl_ReadWord32.l0, rwGo]
      rw [if_pos (by omega), if_pos (by omega), if_pos (by omega), hg]
      simp only [Option.bind_some]
      by_cases h1 : dv (bt s (i : Int)) < 0
      · rw [if_pos h1, if_pos h1]
      · have e4 : Go.bits .or .u64 (IntKind.u64.wrap (x * 32)) (IntKind.u64.wrap (dv (bt s (i : Int)))) = x * 32 + dv (bt s (i : Int)) := by
          rw [u64w (dv _) (by omega) (by omega)]
          by_cases hd : d = 12
          · subst hd
            have hx0 : x = 0 := by simp [lim] at hl; omega
            subst hx0
            rw [u64w (0 * 32) (by omega) (by omega)]
            exact or5 0 _ (by omega) (by omega) (by omega) (by omega)
          · have := m2 (by omega)
            rw [u64w (x * 32) (by omega) (by omega)]
            exact or5 x _ (by omega) (by omega) (by omega) (by omega)
        rw [if_neg h1, if_neg h1, e4, up1 _ (by omega) (by omega), e3]
        by_cases h0 : i = 0
        · subst h0
          rw [if_pos (by omega)]
          by_cases h2 : dv (bt s ((0 : Nat) : Int)) > 15
          · rw [if_pos h2, if_pos ⟨rfl, h2⟩]
          · have hx0 : x = 0 := by
              have : d = 12 := by omega
              subst this; simp [lim] at hl; omega
            have := m3 (by omega)
            rw [if_neg h2, if_neg (by rintro ⟨_, h⟩; exact h2 h)]
            exact (ih _ _ k (by omega) (by omega) (by omega) (by omega)).2
        · have := m2 (by omega)
          rw [if_neg (by omega), if_neg (by rintro ⟨h, _⟩; exact h0 h)]
          exact (ih _ _ k (by omega) (by omega) (by omega) (by omega)).2
theorem spec_ReadWord32_f (s : ByteArray) (k : Nat) (hk : 60 ≤ k) : spec_ReadWord32.f k s = some (rw32 s) := by
  unfold spec_ReadWord32.f rw32
  by_cases h : s.size = 13
  · rw [if_pos (by omega), if_pos h]
    exact (rw_both s h 13 0 0 k (by omega) (by omega) (by decide) (by omega)).1
  · rw [if_neg (by omega), if_neg h]
theorem impl_ReadWord32_f (s : ByteArray) (k : Nat) (hk : 60 ≤ k) : impl_ReadWord32.f k s = some (rw32 s) := by
  unfold impl_ReadWord32.f rw32
  by_cases h : s.size = 13
  · rw [if_pos (by omega), if_pos h]
    exact (rw_both s h 13 0 0 k (by omega) (by omega) (by decide) (by omega)).2
  · rw [if_neg (by omega), if_neg h]

-- AddressOk
def adOk (s : ByteArray) : Bool := decide (15 ≤ s.size) && bt s 13 == 45 && (rw32 (s.extract 0 13)).2 && nmOk (s.extract 14 s.size)
theorem spec_AddressOk_f (s : ByteArray) (k : Nat) (hk : 64 ≤ k) : spec_AddressOk.f k s = some (adOk s) := by
  obtain ⟨k, rfl⟩ : ∃ m, k = m + 1 := ⟨k - 1, by omega⟩
  unfold spec_AddressOk.f adOk
  simp only [spec_AddressOk.j0]
  by_cases h1 : (s.size : Int) < 15
  · rw [if_pos h1]
    have : ¬ 15 ≤ s.size := by omega
    simp [this]
  · rw [if_neg h1, if_pos (by omega)]
    have e1 : 15 ≤ s.size := by omega
    by_cases h2 : bt s 13 = 45
    · have h3 : (bt s 13 != 45) = false := by simp [h2]
      rw [h3, if_neg (by decide), if_pos (by omega), if_pos (by omega), spec_ReadWord32_f _ k (by omega)]
      simp only [Option.bind_some]
      rw [spec_NameOk_f _ k (by omega)]
      by_cases h4 : (rw32 (s.extract 0 13)).2 = true
      · rw [if_pos h4, if_pos (by omega)]; simp [h2, h4, e1]
      · rw [if_neg h4]; simp [h4]
    · have h3 : (bt s 13 != 45) = true := by simp [h2]
      rw [h3, if_pos rfl]; simp [h2]
theorem nm_empty (s : ByteArray) (h : s.size = 0) : nmOk s = false := by simp [nmOk, h]
theorem impl_AddressOk_f (s : ByteArray) (k : Nat) (hk : 64 ≤ k) : impl_AddressOk.f k s = some (adOk s) := by
  unfold impl_AddressOk.f adOk
  by_cases h1 : (s.size : Int) < 14
  · rw [if_pos h1]
    have : ¬ 15 ≤ s.size := by omega
    simp [this]
  · rw [if_neg h1, if_pos (by omega)]
    by_cases h2 : bt s 13 = 45
    · rw [if_pos h2, if_pos (by omega), impl_NameOk_f _ k (by omega), impl_ReadWord32_f _ k (by omega)]
      simp only [Option.bind_some]
      by_cases h4 : nmOk (s.extract 14 s.size) = true
      · have e1 : 15 ≤ s.size := by
          rcases Nat.lt_or_ge s.size 15 with h | h
          · have e : s.size = 14 := by omega
            rw [nm_empty _ (by simp [ByteArray.size_extract]; omega)] at h4
            exact absurd h4 (by decide)
          · exact h
        rw [if_pos h4, if_pos (by omega), if_pos (by omega)]; simp [h2, h4, e1]
      · rw [if_neg h4]; simp [h4]
    · rw [if_neg h2]; simp [h2]

-- Strs
theorem rdStr (l : List ByteArray) (i : Nat) (h : i < l.length) : rdOf ByteArray.empty l (i : Int) = l[i] := by unfold rdOf; simp [List.getD_eq_getElem?_getD, List.getElem?_eq_getElem h]
theorem szStringS_ev (x : List ByteArray) (hx : x.length ≤ 9223372036854775807) (m : Int) (h0 : 0 ≤ m) (h1 : m ≤ 1048576) (ok : ∀ g ∈ x, g.size ≤ 9223372036854775807) : ∃ t, Ev (fun k => laws_szStringS.f k x m) t ∧ (0 ≤ t → t ≤ m ∧ x.length ≤ 1048576) ∧ t ≤ 1048576 := by
  unfold laws_szStringS.f
  rw [w64 _ (by omega) (by omega)]
  by_cases h : m - (x.length : Int) < 0
  · exact ⟨_, Ev.pos h Ev.pure, by omega, by omega⟩
  · have key := downTo x.length (fun i => ∀ a : Int, 0 ≤ a → a ≤ 1048576 → ∃ t, Ev (fun k => laws_szStringS.l0 k x a (i : Int)) t ∧ (0 ≤ t → t ≤ a) ∧ t ≤ 1048576) ?_ ?_ 0 (by omega)
    · obtain ⟨t, a, b, c⟩ := key (m - (x.length : Int)) (by omega) (by omega)
      exact ⟨t, Ev.neg h a, by omega, c⟩
    · intro a a0 a1
      refine ⟨a, Ev.step ?_, by omega, a1⟩
      simp only [laws_szStringS.l0]
      exact Ev.neg (by omega) Ev.pure
    · intro i hi ih a a0 a1
      have hs := ok _ (List.getElem_mem hi)
      have hw : wrap64 (a - ((x[i]).size : Int)) = a - ((x[i]).size : Int) := w64 _ (by omega) (by omega)
      by_cases h2 : a - ((x[i]).size : Int) < 0
      · refine ⟨-1, Ev.step ?_, by omega, by omega⟩
        simp only [laws_szStringS.l0, rdStr x i hi, hw]
        exact Ev.pos (by omega) (Ev.pos (by omega) (Ev.pos h2 Ev.pure))
      · obtain ⟨r, hr, hr2, hr3⟩ := ih (a - ((x[i]).size : Int)) (by omega) (by omega)
        refine ⟨r, Ev.step ?_, by omega, by omega⟩
        simp only [laws_szStringS.l0, rdStr x i hi, hw, upN i (by omega)]
        exact Ev.pos (by omega) (Ev.pos (by omega) (Ev.neg h2 hr))
theorem toStringS_ev (x : List ByteArray) (hx : x.length ≤ 1048576) : Ev (fun k => laws_toStringS.f k x) x := by
  unfold laws_toStringS.f
  refine Ev.pos (by omega) (Ev.pos (by omega) ?_)
  have := setLoop (fun k y i => laws_toStringS.l0 k x y i) x (fun s => s) ?_ ?_ (List.replicate ((x.length : Int)).toNat (⟨#[]⟩ : ByteArray)) (by simp)
  · simpa using this
  · intro i y r hi hy h
    refine Ev.step ?_
    simp only [laws_toStringS.l0, rdStr x i hi, upN i (by omega)]
    exact Ev.pos (by omega) (Ev.pos (by omega) (Ev.pos (by omega) h))
  · intro y hy
    refine Ev.step ?_
    simp only [laws_toStringS.l0]
    exact Ev.neg (by omega) Ev.pure
theorem eqStringS_ev (x : List ByteArray) (hx : x.length ≤ 1048576) : Ev (fun k => laws_eqStringS.f k x x) true := by
  unfold laws_eqStringS.f
  refine Ev.pos rfl ?_
  refine countLoop (fun k i => laws_eqStringS.l0 k x x i) x.length true ?_ ?_
  · intro i hi h
    refine Ev.step ?_
    simp only [laws_eqStringS.l0, upN i (by omega)]
    exact Ev.pos (by omega) (Ev.pos (by omega) (Ev.pos (by omega) (Ev.pos trivial h)))
  · refine Ev.step ?_
    simp only [laws_eqStringS.l0]
    exact Ev.neg (by omega) Ev.pure

-- Drv
theorem Ev.guard {f g : Nat → Option Bool} {a b : Bool} (h : Ev f a) (h2 : Ev g b) : Ev (fun k => (f k).bind fun t => if t = true then g k else some false) (a && b) := by
  cases a
  · exact Ev.bind h (Ev.neg (by simp) Ev.pure)
  · rw [Bool.true_and]
    exact Ev.bind h (Ev.pos rfl h2)
theorem Ev.guard2 {f : Nat → Option Bool} {g e : Nat → Option Bool} {a b : Bool} (h : Ev f a) (h2 : Ev g b) (he : Ev e false) : Ev (fun k => (f k).bind fun t => if t = true then g k else e k) (a && b) := by
  cases a
  · exact Ev.bind h (Ev.neg (by simp) he)
  · rw [Bool.true_and]
    exact Ev.bind h (Ev.pos rfl h2)
theorem Ev.unless {c : Prop} [Decidable c] {f g : Nat → Option Bool} {b : Bool} (hf : Ev f false) (hg : Ev g b) : Ev (fun k => if c then f k else g k) (!decide c && b) := by
  by_cases h : c
  · rw [decide_eq_true h]; exact Ev.pos h hf
  · rw [decide_eq_false h]; exact Ev.neg h hg
theorem Ev.whenb {c : Prop} [Decidable c] {f g : Nat → Option Bool} {b : Bool} (hf : Ev g false) (hg : Ev f b) : Ev (fun k => if c then f k else g k) (decide c && b) := by
  by_cases h : c
  · rw [decide_eq_true h]; exact Ev.pos h hg
  · rw [decide_eq_false h]; exact Ev.neg h hf
/-- All from i on. -/
def allF (ok : Nat → Bool) (n i : Nat) : Bool := (List.range' i (n - i)).all ok
theorem allF_end (ok : Nat → Bool) (n : Nat) : allF ok n n = true := by simp [allF]
theorem allF_step (ok : Nat → Bool) (n i : Nat) (h : i < n) : allF ok n i = (ok i && allF ok n (i + 1)) := by
  unfold allF
  obtain ⟨d, hd⟩ : ∃ d, n - i = d + 1 := ⟨n - i - 1, by omega⟩
  rw [hd, List.range'_succ, List.all_cons, show n - (i + 1) = d by omega]
theorem allF_and (a b : Nat → Bool) (n i : Nat) : allF (fun j => a j && b j) n i = (allF a n i && allF b n i) := by
  unfold allF
  induction (List.range' i (n - i)) with
  | nil => rfl
  | cons x t ih => simp only [List.all_cons, ih]; cases a x <;> cases b x <;> simp
theorem loopAll (L : Nat → Int → Option Bool) (n : Nat) (ok : Nat → Bool) (X : Bool) (stop : Ev (fun k => L k ((n : Nat) : Int)) X) (step : ∀ i, i < n → ∀ r, Ev (fun k => L k ((i + 1 : Nat) : Int)) r → Ev (fun k => L k ((i : Nat) : Int)) (ok i && r)) :
    Ev (fun k => L k 0) (allF ok n 0 && X) := by
  have := downTo n (fun i => Ev (fun k => L k ((i : Nat) : Int)) (allF ok n i && X)) (by rw [allF_end, Bool.true_and]; exact stop) (fun i hi h => by rw [allF_step ok n i hi, Bool.and_assoc]; exact step i hi _ h) 0 (by omega)
  exact this
theorem less_tri : ∀ a b : List UInt8, (Op.bytesLess a b = true ∧ Op.bytesLess b a = false ∧ a ≠ b) ∨ (a = b ∧ Op.bytesLess a b = false) ∨ (Op.bytesLess b a = true ∧ Op.bytesLess a b = false ∧ a ≠ b)
  | [], [] => Or.inr (Or.inl ⟨rfl, rfl⟩)
  | [], y :: b => Or.inl ⟨rfl, rfl, by simp⟩
  | x :: a, [] => Or.inr (Or.inr ⟨rfl, rfl, by simp⟩)
  | x :: a, y :: b => by
    have hlt : ∀ p q : UInt8, p < q ↔ p.toNat < q.toNat := fun p q => UInt8.lt_iff_toNat_lt
    have heq : ∀ p q : UInt8, p = q ↔ p.toNat = q.toNat := fun p q => ⟨fun h => by rw [h], fun h => UInt8.toNat_inj.1 h⟩
    unfold Op.bytesLess
    by_cases h1 : x < y
    · have h2 : ¬ y < x := by rw [hlt] at *; omega
      have h3 : ¬ x = y := by rw [hlt, heq] at *; omega
      exact Or.inl ⟨by simp [h1], by simp [h2, Ne.symm h3], by simp [h3]⟩
    · by_cases h2 : y < x
      · have h3 : ¬ x = y := by rw [hlt, heq] at *; omega
        exact Or.inr (Or.inr ⟨by simp [h2], by simp [h1, h3], by simp [h3]⟩)
      · have h3 : x = y := by rw [hlt] at *; rw [heq]; omega
        subst h3
        rcases less_tri a b with ⟨p, q, r⟩ | ⟨p, q⟩ | ⟨p, q, r⟩
        · exact Or.inl ⟨by simp [p], by simp [h1, q], by simp [r]⟩
        · exact Or.inr (Or.inl ⟨by rw [p], by simp [h1, q]⟩)
        · exact Or.inr (Or.inr ⟨by simp [p], by simp [h1, q], by simp [r]⟩)
def lessS (a b : ByteArray) : Bool := Op.bytesLess a.toList b.toList
def usesLess (a b c d : ByteArray) : Bool := lessS a c || (decide (a.toList = c.toList) && lessS b d)
theorem usesLess_f (a b c d : ByteArray) : spec_l5UsesLess.f a b c d = some (usesLess a b c d) := by
  unfold spec_l5UsesLess.f usesLess lessS
  by_cases h : Op.bytesLess a.toList c.toList = true
  · rw [if_pos h, h]; rfl
  · rw [if_neg h, Bool.eq_false_iff.mpr h]
    by_cases h2 : a.toList = c.toList
    · rw [if_pos h2, decide_eq_true h2]; simp
    · rw [if_neg h2, decide_eq_false h2]; simp
theorem specName_ev (s : ByteArray) : Ev (fun k => spec_NameOk.f k s) (nmOk s) := Ev.of 63 (fun k hk => spec_NameOk_f s k hk)
theorem implName_ev (s : ByteArray) : Ev (fun k => impl_NameOk.f k s) (nmOk s) := Ev.of 63 (fun k hk => impl_NameOk_f s k hk)
theorem specAddress_ev (s : ByteArray) : Ev (fun k => spec_AddressOk.f k s) (adOk s) := Ev.of 64 (fun k hk => spec_AddressOk_f s k hk)
theorem implAddress_ev (s : ByteArray) : Ev (fun k => impl_AddressOk.f k s) (adOk s) := Ev.of 64 (fun k hk => impl_AddressOk_f s k hk)
theorem specWord_ev (s : ByteArray) : Ev (fun k => spec_ReadWord32.f k s) (rw32 s) := Ev.of 60 (fun k hk => spec_ReadWord32_f s k hk)
theorem implWord_ev (s : ByteArray) : Ev (fun k => impl_ReadWord32.f k s) (rw32 s) := Ev.of 60 (fun k hk => impl_ReadWord32_f s k hk)
/-- A text's bytes: none below a blank but newlines. -/
def okc (s : ByteArray) (i : Nat) : Bool := !decide (bt s i < 32) || decide (bt s i = 10)
def txOk (s : ByteArray) : Bool := allF (okc s) s.size 0 && decide ((s.size : Int) ≤ 4000)
theorem specText_ev (s : ByteArray) (hs : s.size ≤ 1048576) : Ev (fun k => spec_l5TextOk.f k s) (txOk s) := by
  unfold spec_l5TextOk.f txOk
  refine loopAll (fun k i => spec_l5TextOk.l0 k s i) s.size (okc s) _ ?_ ?_
  · refine Ev.step ?_
    simp only [spec_l5TextOk.l0]
    exact Ev.neg (by omega) Ev.pure
  · intro i hi r h
    refine Ev.step ?_
    simp only [spec_l5TextOk.l0, upN i (by omega)]
    refine Ev.pos (by omega) (Ev.pos (by omega) ?_)
    unfold okc
    by_cases c : bt s i < 32
    · by_cases d : bt s i = 10
      · rw [decide_eq_true d, Bool.or_true, Bool.true_and]; exact Ev.pos c (Ev.pos d h)
      · rw [decide_eq_true c, decide_eq_false d]; exact Ev.pos c (Ev.neg d Ev.pure)
    · rw [decide_eq_false c, Bool.not_false, Bool.true_or, Bool.true_and]; exact Ev.neg c h
theorem implText_ev (s : ByteArray) (hs : s.size ≤ 1048576) : Ev (fun k => impl_plainText.f k s) (txOk s) := by
  unfold impl_plainText.f txOk
  by_cases z : (s.size : Int) > 4000
  · rw [decide_eq_false (show ¬ (s.size : Int) ≤ 4000 by omega), Bool.and_false]; exact Ev.pos z Ev.pure
  · rw [decide_eq_true (show (s.size : Int) ≤ 4000 by omega)]
    refine Ev.neg z (loopAll (fun k i => impl_plainText.l0 k s (s.size : Int) i) s.size (okc s) _ ?_ ?_)
    · refine Ev.step ?_
      simp only [impl_plainText.l0]
      exact Ev.neg (by omega) Ev.pure
    · intro i hi r h
      refine Ev.step ?_
      simp only [impl_plainText.l0, upN i (by omega)]
      refine Ev.pos (by omega) (Ev.pos (by omega) (Ev.pos (by omega) ?_))
      unfold okc
      by_cases c : bt s i < 32
      · by_cases d : bt s i = 10
        · rw [decide_eq_true d, Bool.or_true, Bool.true_and]; exact Ev.pos c (Ev.pos d h)
        · rw [decide_eq_true c, decide_eq_false d]; exact Ev.pos c (Ev.neg d Ev.pure)
      · rw [decide_eq_false c, Bool.not_false, Bool.true_or, Bool.true_and]; exact Ev.neg c h
def stS (l : List ByteArray) (i : Nat) : ByteArray := l.getD i ByteArray.empty
theorem rdst (l : List ByteArray) (i : Nat) : rdOf ByteArray.empty l (i : Int) = stS l i := by unfold rdOf stS; simp
def upS (l : List ByteArray) (i : Nat) : Bool := !decide (0 < i) || lessS (stS l (i - 1)) (stS l i)
theorem rising_ev (l : List ByteArray) (hl : l.length ≤ 1048576) : Ev (fun k => impl_rising.f k l) (allF (upS l) l.length 0) := by
  unfold impl_rising.f
  have key := downTo (l.length + 1) (fun i => 0 < i → Ev (fun k => impl_rising.l0 k l (i : Int)) (allF (upS l) l.length i)) ?_ ?_ 1 (by omega) (by omega)
  · by_cases h : 0 < l.length
    · rw [allF_step _ _ _ h, show upS l 0 = true by simp [upS], Bool.true_and]; exact key
    · have h0 : l.length = 0 := by omega
      have e0 : allF (upS l) l.length 0 = allF (upS l) l.length 1 := by simp [allF, h0]
      rw [e0]; exact key
  · intro _
    refine Ev.step ?_
    simp only [impl_rising.l0]
    rw [show allF (upS l) l.length (l.length + 1) = true by simp [allF]]
    exact Ev.neg (by omega) Ev.pure
  · intro i hi ih h0
    refine Ev.step ?_
    by_cases h : i < l.length
    · rw [allF_step _ _ _ h]
      simp only [impl_rising.l0, dnN i (by omega) h0, rdst, upN i (by omega)]
      refine Ev.pos (by omega) (Ev.pos (by omega) (Ev.pos (by omega) (Ev.pos (by omega) ?_)))
      have e : upS l i = lessS (stS l (i - 1)) (stS l i) := by unfold upS; rw [decide_eq_true h0]; rfl
      rw [e]
      by_cases c : Op.bytesLess (stS l (i - 1)).toList (stS l i).toList = true
      · rw [show lessS (stS l (i - 1)) (stS l i) = true from c, Bool.true_and]; exact Ev.pos c (ih (by omega))
      · rw [show lessS (stS l (i - 1)) (stS l i) = false from Bool.eq_false_iff.mpr c, Bool.false_and]; exact Ev.neg c Ev.pure
    · rw [show allF (upS l) l.length i = true by unfold allF; rw [show l.length - i = 0 by omega]; rfl]
      simp only [impl_rising.l0]
      exact Ev.neg (by omega) Ev.pure

-- DrvOk
theorem Ev.up {i n : Nat} {c : Prop} [Decidable c] {f : Nat → Option Bool} {a u : Bool} (hi : i < n) (hn : n < 1000000000000000) (hu : 0 < i → (c ↔ u = true)) (ha : Ev f a) :
    Ev (fun k => if (i : Int) > 0 then (if 0 ≤ wrap64 ((i : Int) - 1) then (if wrap64 ((i : Int) - 1) < (n : Int) then (if c then f k else some false) else none) else none) else f k) ((!decide (0 < i) || u) && a) := by
  by_cases h : 0 < i
  · rw [decide_eq_true h, Bool.not_true, Bool.false_or]
    have e := dnN i (by omega) h
    refine Ev.pos (by omega) (Ev.pos (by rw [e]; omega) (Ev.pos (by rw [e]; omega) ?_))
    cases u
    · exact Ev.neg (fun hc => by have := (hu h).1 hc; simp at this) Ev.pure
    · rw [Bool.true_and]; exact Ev.pos ((hu h).2 rfl) ha
  · rw [decide_eq_false h, Bool.not_false, Bool.true_or, Bool.true_and]
    exact Ev.neg (by omega) ha
def stE (l : List S73) (i : Nat) : S73 := l.getD i z73
def stU (l : List S75) (i : Nat) : S75 := l.getD i z75
theorem rdE (l : List S73) (i : Nat) : rd_T73 l (i : Int) = stE l i := by unfold rd_T73 stE; simp
theorem rdU (l : List S75) (i : Nat) : rd_T75 l (i : Int) = stU l i := by unfold rd_T75 stU; simp
def enOk (l : List S73) (i : Nat) : Bool := nmOk (stE l i).f0 && ((!decide (0 < i) || lessS (stE l (i - 1)).f0 (stE l i).f0) && txOk (stE l i).f1)
def usOk (l : List S75) (i : Nat) : Bool := adOk (stU l i).f0 && (nmOk (stU l i).f1 && (!decide (0 < i) || usesLess (stU l (i - 1)).f0 (stU l (i - 1)).f1 (stU l i).f0 (stU l i).f1))
def fxOk (o : List ByteArray) (fx : ByteArray) : Bool := decide (fx.toList = ([] : List UInt8)) || ((rw32 fx).2 && (decide ((o.length : Int) = 1) && decide ((rdOf ByteArray.empty o 0).toList = ([111, 117, 116] : List UInt8))))
section
variable (n b : ByteArray) (o : List ByteArray) (fx : ByteArray) (en : List S73) (us : List S75) (sr : List ByteArray)
theorem Usual_ev (ho : o.length ≤ 1048576) (he : en.length ≤ 1048576) (hu : us.length ≤ 1048576) (hs : sr.length ≤ 1048576) (htx : ∀ i, (stE en i).f1.size ≤ 1048576) :
    Ev (fun k => spec_l5Usual.f k n b o fx en us sr) (allF (fun i => nmOk (stS o i) && upS o i) o.length 0 && (allF (fun i => adOk (stS sr i) && upS sr i) sr.length 0 && (allF (enOk en) en.length 0 && (allF (usOk us) us.length 0 && true)))) := by
  unfold spec_l5Usual.f
  have l3 : Ev (fun k => spec_l5Usual.l3 k 0 n b o fx en us sr) (allF (usOk us) us.length 0 && true) := by
    refine loopAll (fun k i => spec_l5Usual.l3 k i n b o fx en us sr) us.length (usOk us) _ ?_ ?_
    · refine Ev.step ?_
      simp only [spec_l5Usual.l3]
      exact Ev.neg (by omega) Ev.pure
    · intro i hi r h
      refine Ev.step ?_
      simp only [spec_l5Usual.l3, rdU, upN i (by omega)]
      unfold usOk
      rw [Bool.and_assoc, Bool.and_assoc]
      refine Ev.pos (by omega) (Ev.pos (by omega) (Ev.guard (specAddress_ev _) (Ev.guard (specName_ev _) ?_)))
      by_cases c : 0 < i
      · rw [decide_eq_true c, Bool.not_true, Bool.false_or]
        simp only [dnN i (by omega) c, rdU, usesLess_f]
        refine Ev.pos (by omega) (Ev.pos (by omega) (Ev.pos (by omega) ?_))
        exact Ev.guard (f := fun _ => some (usesLess (stU us (i - 1)).f0 (stU us (i - 1)).f1 (stU us i).f0 (stU us i).f1)) Ev.pure h
      · rw [decide_eq_false c, Bool.not_false, Bool.true_or, Bool.true_and]
        exact Ev.neg (by omega) h
  have l2 : Ev (fun k => spec_l5Usual.l2 k 0 n b o fx en us sr) (allF (enOk en) en.length 0 && (allF (usOk us) us.length 0 && true)) := by
    refine loopAll (fun k i => spec_l5Usual.l2 k i n b o fx en us sr) en.length (enOk en) _ ?_ ?_
    · refine Ev.step ?_
      simp only [spec_l5Usual.l2]
      exact Ev.neg (by omega) l3
    · intro i hi r h
      refine Ev.step ?_
      simp only [spec_l5Usual.l2, rdE, upN i (by omega)]
      unfold enOk
      rw [Bool.and_assoc, Bool.and_assoc]
      refine Ev.pos (by omega) (Ev.pos (by omega) (Ev.guard (specName_ev _) ?_))
      exact Ev.up hi (by omega) (fun c => by rw [dnN i (by omega) c, rdE]; exact Iff.rfl) (Ev.guard (specText_ev _ (htx i)) h)
  have l1 : Ev (fun k => spec_l5Usual.l1 k 0 n b o fx en us sr) (allF (fun i => adOk (stS sr i) && upS sr i) sr.length 0 && (allF (enOk en) en.length 0 && (allF (usOk us) us.length 0 && true))) := by
    refine loopAll (fun k i => spec_l5Usual.l1 k i n b o fx en us sr) sr.length (fun i => adOk (stS sr i) && upS sr i) _ ?_ ?_
    · refine Ev.step ?_
      simp only [spec_l5Usual.l1]
      exact Ev.neg (by omega) l2
    · intro i hi r h
      refine Ev.step ?_
      simp only [spec_l5Usual.l1, rdst, upN i (by omega)]
      unfold upS
      rw [Bool.and_assoc]
      refine Ev.pos (by omega) (Ev.pos (by omega) (Ev.guard (specAddress_ev _) ?_))
      exact Ev.up hi (by omega) (fun c => by rw [dnN i (by omega) c, rdst]; exact Iff.rfl) h
  refine loopAll (fun k i => spec_l5Usual.l0 k i n b o fx en us sr) o.length (fun i => nmOk (stS o i) && upS o i) _ ?_ ?_
  · refine Ev.step ?_
    simp only [spec_l5Usual.l0]
    exact Ev.neg (by omega) l1
  · intro i hi r h
    refine Ev.step ?_
    simp only [spec_l5Usual.l0, rdst, upN i (by omega)]
    unfold upS
    rw [Bool.and_assoc]
    refine Ev.pos (by omega) (Ev.pos (by omega) (Ev.guard (specName_ev _) ?_))
    exact Ev.up hi (by omega) (fun c => by rw [dnN i (by omega) c, rdst]; exact Iff.rfl) h
theorem fixed_ev {f : Nat → Option Bool} {g : Nat → Option (Int × Bool)} {a : Bool} (hg : Ev g (rw32 fx)) (h : Ev f a) :
    Ev (fun k => if fx.toList = ([] : List UInt8) then f k else ((g k).bind fun bt => if bt.2 = true then (if (o.length : Int) = 1 then (if 0 < (o.length : Int) then (if (rdOf ByteArray.empty o 0).toList = ([111, 117, 116] : List UInt8) then f k else some false) else none) else some false) else some false)) (fxOk o fx && a) := by
  unfold fxOk
  by_cases c : fx.toList = ([] : List UInt8)
  · rw [decide_eq_true c, Bool.true_or, Bool.true_and]; exact Ev.pos c h
  · rw [decide_eq_false c, Bool.false_or]
    refine Ev.neg c (Ev.bind hg ?_)
    by_cases d : (rw32 fx).2 = true
    · rw [d, Bool.true_and]
      refine Ev.pos rfl ?_
      by_cases e : (o.length : Int) = 1
      · rw [decide_eq_true e, Bool.true_and]
        exact Ev.pos e (Ev.pos (by omega) (Ev.whenb Ev.pure h))
      · rw [decide_eq_false e]; exact Ev.neg e Ev.pure
    · rw [Bool.eq_false_iff.mpr d]; exact Ev.neg (by simp) Ev.pure
theorem specDrv_ev (hb : b.size ≤ 1048576) (ho : o.length ≤ 1048576) (he : en.length ≤ 1048576) (hu : us.length ≤ 1048576) (hs : sr.length ≤ 1048576) (htx : ∀ i, (stE en i).f1.size ≤ 1048576) :
    Ev (fun k => spec_DrvOk.f k n b o fx en us sr) (nmOk n && (txOk b && (!decide ((o.length : Int) < 1) && (!decide ((o.length : Int) > 5) && (!decide ((en.length : Int) > 2000) && (!decide ((us.length : Int) > 2000) && (!decide ((sr.length : Int) > 2000) && (fxOk o fx &&
      (allF (fun i => nmOk (stS o i) && upS o i) o.length 0 && (allF (fun i => adOk (stS sr i) && upS sr i) sr.length 0 && (allF (enOk en) en.length 0 && (allF (usOk us) us.length 0 && true)))))))))))) := by
  unfold spec_DrvOk.f
  have usual := Usual_ev n b o fx en us sr ho he hu hs htx
  have j : ∀ q : Bool, Ev (fun k => spec_DrvOk.j0 k q n b o fx en us sr) (!q && (fxOk o fx && (allF (fun i => nmOk (stS o i) && upS o i) o.length 0 && (allF (fun i => adOk (stS sr i) && upS sr i) sr.length 0 && (allF (enOk en) en.length 0 && (allF (usOk us) us.length 0 && true)))))) := by
    intro q
    refine Ev.step ?_
    simp only [spec_DrvOk.j0]
    cases q
    · rw [Bool.not_false, Bool.true_and]
      exact Ev.neg (by simp) (fixed_ev o fx (specWord_ev fx) (Ev.bind usual Ev.pure))
    · exact Ev.pos rfl Ev.pure
  have jt := j true
  rw [Bool.not_true, Bool.false_and] at jt
  exact Ev.guard2 (specName_ev n) (Ev.guard2 (specText_ev b hb) (Ev.unless jt (Ev.unless jt (Ev.unless jt (Ev.unless jt (j _))))) jt) jt
theorem implDrv_ev (hb : b.size ≤ 1048576) (ho : o.length ≤ 1048576) (he : en.length ≤ 1048576) (hu : us.length ≤ 1048576) (hs : sr.length ≤ 1048576) (htx : ∀ i, (stE en i).f1.size ≤ 1048576) :
    Ev (fun k => impl_DrvOk.f k n b o fx en us sr) (nmOk n && (txOk b && (!decide ((o.length : Int) < 1) && (!decide ((o.length : Int) > 5) && (allF (upS o) o.length 0 && (!decide ((en.length : Int) > 2000) && (!decide ((us.length : Int) > 2000) && (!decide ((sr.length : Int) > 2000) && (!!allF (upS sr) sr.length 0 &&
      (allF (fun i => nmOk (stS o i)) o.length 0 && (fxOk o fx && (allF (enOk en) en.length 0 && (allF (usOk us) us.length 0 && (allF (fun i => adOk (stS sr i)) sr.length 0 && true)))))))))))))) := by
  unfold impl_DrvOk.f
  have l3 : Ev (fun k => impl_DrvOk.l3 k sr (sr.length : Int) 0) (allF (fun i => adOk (stS sr i)) sr.length 0 && true) := by
    refine loopAll (fun k i => impl_DrvOk.l3 k sr (sr.length : Int) i) sr.length (fun i => adOk (stS sr i)) _ ?_ ?_
    · refine Ev.step ?_
      simp only [impl_DrvOk.l3]
      exact Ev.neg (by omega) Ev.pure
    · intro i hi r h
      refine Ev.step ?_
      simp only [impl_DrvOk.l3, rdst, upN i (by omega)]
      exact Ev.pos (by omega) (Ev.pos (by omega) (Ev.pos (by omega) (Ev.guard (implAddress_ev _) h)))
  have l2 : Ev (fun k => impl_DrvOk.l2 k us (us.length : Int) 0 n b o fx en us sr) (allF (usOk us) us.length 0 && (allF (fun i => adOk (stS sr i)) sr.length 0 && true)) := by
    refine loopAll (fun k i => impl_DrvOk.l2 k us (us.length : Int) i n b o fx en us sr) us.length (usOk us) _ ?_ ?_
    · refine Ev.step ?_
      simp only [impl_DrvOk.l2]
      exact Ev.neg (by omega) l3
    · intro i hi r h
      have j : ∀ q : Bool, Ev (fun k => impl_DrvOk.j5 k (i : Int) us (us.length : Int) (i : Int) q n b o fx en us sr (stU us i).f0 (stU us i).f1) (!q && ((!decide (0 < i) || usesLess (stU us (i - 1)).f0 (stU us (i - 1)).f1 (stU us i).f0 (stU us i).f1) && r)) := by
        intro q
        refine Ev.step ?_
        simp only [impl_DrvOk.j5, upN i (by omega)]
        cases q
        · rw [Bool.not_false, Bool.true_and]
          refine Ev.neg (by simp) ?_
          by_cases c : 0 < i
          · rw [decide_eq_true c, Bool.not_true, Bool.false_or]
            simp only [dnN i (by omega) c, rdU]
            refine Ev.pos (by omega) (Ev.pos (by omega) (Ev.pos (by omega) ?_))
            unfold usesLess lessS
            rcases less_tri (stU us (i - 1)).f0.toList (stU us i).f0.toList with ⟨t1, t2, t3⟩ | ⟨t1, t2⟩ | ⟨t1, t2, t3⟩
            · rw [t1, Bool.true_or, Bool.true_and]
              exact Ev.neg (by rw [t2]; simp) (Ev.neg (fun e => t3 e.symm) h)
            · rw [t2, Bool.false_or, decide_eq_true t1, Bool.true_and]
              refine Ev.neg (by rw [t1] at t2 ⊢; rw [t2]; simp) (Ev.pos t1.symm ?_)
              by_cases d : Op.bytesLess (stU us (i - 1)).f1.toList (stU us i).f1.toList = true
              · rw [d, Bool.true_and]; exact Ev.pos rfl h
              · rw [Bool.eq_false_iff.mpr d]; exact Ev.neg (by simp) Ev.pure
            · rw [t2, Bool.false_or, decide_eq_false t3]
              exact Ev.pos t1 Ev.pure
          · rw [decide_eq_false c, Bool.not_false, Bool.true_or, Bool.true_and]
            exact Ev.neg (by omega) h
        · exact Ev.pos rfl Ev.pure
      refine Ev.step ?_
      simp only [impl_DrvOk.l2, rdU]
      unfold usOk
      rw [Bool.and_assoc, Bool.and_assoc]
      refine Ev.pos (by omega) (Ev.pos (by omega) (Ev.pos (by omega) (Ev.guard2 (implAddress_ev _) (Ev.bind (implName_ev _) ?_) (by have := j true; rw [Bool.not_true, Bool.false_and] at this; exact this))))
      have := j (!nmOk (stU us i).f1)
      rw [Bool.not_not] at this
      exact this
  have j2 : Ev (fun k => impl_DrvOk.j2 k n b o fx en us sr) (allF (enOk en) en.length 0 && (allF (usOk us) us.length 0 && (allF (fun i => adOk (stS sr i)) sr.length 0 && true))) := by
    refine Ev.step ?_
    simp only [impl_DrvOk.j2]
    refine loopAll (fun k i => impl_DrvOk.l1 k en (en.length : Int) i n b o fx en us sr) en.length (enOk en) _ ?_ ?_
    · refine Ev.step ?_
      simp only [impl_DrvOk.l1]
      exact Ev.neg (by omega) l2
    · intro i hi r h
      refine Ev.step ?_
      simp only [impl_DrvOk.l1, rdE, upN i (by omega)]
      unfold enOk
      have e : ((nmOk (stE en i).f0 && ((!decide (0 < i) || lessS (stE en (i - 1)).f0 (stE en i).f0) && txOk (stE en i).f1)) && r) = (nmOk (stE en i).f0 && (txOk (stE en i).f1 && ((!decide (0 < i) || lessS (stE en (i - 1)).f0 (stE en i).f0) && r))) := by
        cases nmOk (stE en i).f0 <;> cases txOk (stE en i).f1 <;> cases (!decide (0 < i) || lessS (stE en (i - 1)).f0 (stE en i).f0) <;> rfl
      rw [e]
      refine Ev.pos (by omega) (Ev.pos (by omega) (Ev.pos (by omega) (Ev.guard (implName_ev _) (Ev.guard (implText_ev _ (htx i)) ?_))))
      exact Ev.up hi (by omega) (fun c => by rw [dnN i (by omega) c, rdE]; exact Iff.rfl) h
  have j : ∀ q : Bool, Ev (fun k => impl_DrvOk.j0 k q n b o fx en us sr) (!q && (allF (fun i => nmOk (stS o i)) o.length 0 && (fxOk o fx && (allF (enOk en) en.length 0 && (allF (usOk us) us.length 0 && (allF (fun i => adOk (stS sr i)) sr.length 0 && true)))))) := by
    intro q
    refine Ev.step ?_
    simp only [impl_DrvOk.j0]
    cases q
    · rw [Bool.not_false, Bool.true_and]
      refine Ev.neg (by simp) (loopAll (fun k i => impl_DrvOk.l0 k o (o.length : Int) i n b o fx en us sr) o.length (fun i => nmOk (stS o i)) _ ?_ ?_)
      · refine Ev.step ?_
        simp only [impl_DrvOk.l0]
        exact Ev.neg (by omega) (fixed_ev o fx (implWord_ev fx) j2)
      · intro i hi r h
        refine Ev.step ?_
        simp only [impl_DrvOk.l0, rdst, upN i (by omega)]
        exact Ev.pos (by omega) (Ev.pos (by omega) (Ev.pos (by omega) (Ev.guard (implName_ev _) h)))
    · exact Ev.pos rfl Ev.pure
  have jt := j true
  rw [Bool.not_true, Bool.false_and] at jt
  exact Ev.guard2 (implName_ev n) (Ev.guard2 (implText_ev b hb) (Ev.unless jt (Ev.unless jt (Ev.guard2 (rising_ev o ho) (Ev.unless jt (Ev.unless jt (Ev.unless jt (Ev.bind (rising_ev sr hs) (j _))))) jt))) jt) jt
theorem DrvOk_ev (hb : b.size ≤ 1048576) (ho : o.length ≤ 1048576) (he : en.length ≤ 1048576) (hu : us.length ≤ 1048576) (hs : sr.length ≤ 1048576) (htx : ∀ i, (stE en i).f1.size ≤ 1048576) :
    ∃ r, Ev (fun k => spec_DrvOk.f k n b o fx en us sr) r ∧ Ev (fun k => impl_DrvOk.f k n b o fx en us sr) r := by
  refine ⟨_, specDrv_ev n b o fx en us sr hb ho he hu hs htx, ?_⟩
  have h := implDrv_ev n b o fx en us sr hb ho he hu hs htx
  have e1 := allF_and (fun i => nmOk (stS o i)) (upS o) o.length 0
  have e2 := allF_and (fun i => adOk (stS sr i)) (upS sr) sr.length 0
  rw [e1, e2]
  generalize allF (fun i => nmOk (stS o i)) o.length 0 = q1 at *
  generalize allF (upS o) o.length 0 = q2 at *
  generalize allF (fun i => adOk (stS sr i)) sr.length 0 = q3 at *
  generalize allF (upS sr) sr.length 0 = q4 at *
  generalize allF (enOk en) en.length 0 = q5 at *
  generalize allF (usOk us) us.length 0 = q6 at *
  generalize fxOk o fx = q7 at *
  generalize nmOk n = q8 at *
  generalize txOk b = q9 at *
  simp only [Bool.not_not, Bool.and_true, Bool.and_assoc, Bool.and_comm, Bool.and_left_comm] at h ⊢
  exact h
end

-- DrvTo
def cPair (p : S102) : S73 := ⟨p.f0, p.f1⟩
def cUses (p : S104) : S75 := ⟨p.f0, p.f1⟩
theorem rd102 (l : List S102) (i : Nat) (h : i < l.length) : rd_T102 l (i : Int) = l[i] := by unfold rd_T102; simp [List.getD_eq_getElem?_getD, List.getElem?_eq_getElem h]
theorem rd104 (l : List S104) (i : Nat) (h : i < l.length) : rd_T104 l (i : Int) = l[i] := by unfold rd_T104; simp [List.getD_eq_getElem?_getD, List.getElem?_eq_getElem h]
theorem rd73 (l : List S73) (i : Nat) (h : i < l.length) : rd_T73 l (i : Int) = l[i] := by unfold rd_T73; simp [List.getD_eq_getElem?_getD, List.getElem?_eq_getElem h]
theorem rd75 (l : List S75) (i : Nat) (h : i < l.length) : rd_T75 l (i : Int) = l[i] := by unfold rd_T75; simp [List.getD_eq_getElem?_getD, List.getElem?_eq_getElem h]
theorem two_f (a b : ByteArray) (m : Int) (h0 : 0 ≤ m) (h1 : m ≤ 1048576) (ha : a.size ≤ 9223372036854775807) (hb : b.size ≤ 9223372036854775807) :
    ∃ t, (if (wrap64 (m - (a.size : Int))) < 0 then (some (-1)) else (if (wrap64 ((wrap64 (m - (a.size : Int))) - (b.size : Int))) < 0 then (some (-1)) else (some (wrap64 ((wrap64 (m - (a.size : Int))) - (b.size : Int)))))) = some t ∧ (0 ≤ t → t ≤ m ∧ b.size ≤ 1048576) ∧ t ≤ 1048576 := by
  rw [w64 (m - (a.size : Int)) (by omega) (by omega)]
  by_cases h : m - (a.size : Int) < 0
  · rw [if_pos h]; exact ⟨-1, rfl, by omega, by omega⟩
  · rw [if_neg h, w64 (m - (a.size : Int) - (b.size : Int)) (by omega) (by omega)]
    by_cases h2 : m - (a.size : Int) - (b.size : Int) < 0
    · rw [if_pos h2]; exact ⟨-1, rfl, by omega, by omega⟩
    · rw [if_neg h2]; exact ⟨_, rfl, by omega, by omega⟩
theorem szPairS_ev (x : List S102) (hx : x.length ≤ 9223372036854775807) (m : Int) (h0 : 0 ≤ m) (h1 : m ≤ 1048576) (ok : ∀ g ∈ x, g.f0.size ≤ 9223372036854775807 ∧ g.f1.size ≤ 9223372036854775807) : ∃ t, Ev (fun k => laws_szPairS.f k x m) t ∧ (0 ≤ t → t ≤ m ∧ x.length ≤ 1048576 ∧ ∀ g ∈ x, g.f1.size ≤ 1048576) ∧ t ≤ 1048576 := by
  unfold laws_szPairS.f
  rw [w64 _ (by omega) (by omega)]
  by_cases h : m - (x.length : Int) < 0
  · exact ⟨_, Ev.pos h Ev.pure, by omega, by omega⟩
  · have key := downTo x.length (fun i => ∀ a : Int, 0 ≤ a → a ≤ 1048576 → ∃ t, Ev (fun k => laws_szPairS.l0 k x a (i : Int)) t ∧ (0 ≤ t → t ≤ a ∧ ∀ g ∈ x.drop i, g.f1.size ≤ 1048576) ∧ t ≤ 1048576) ?_ ?_ 0 (by omega)
    · obtain ⟨t, a, b, c⟩ := key (m - (x.length : Int)) (by omega) (by omega)
      exact ⟨t, Ev.neg h a, fun h3 => ⟨by have := (b h3).1; omega, by omega, by simpa using (b h3).2⟩, c⟩
    · intro a a0 a1
      refine ⟨a, Ev.step ?_, by simp, a1⟩
      simp only [laws_szPairS.l0]
      exact Ev.neg (by omega) Ev.pure
    · intro i hi ih a a0 a1
      obtain ⟨o1, o2⟩ := ok _ (List.getElem_mem hi)
      obtain ⟨t, ht, hm, hn⟩ := two_f (x[i]).f0 (x[i]).f1 a a0 a1 o1 o2
      have ht : laws_szPair.f (x[i]).f0 (x[i]).f1 a = some t := ht
      by_cases h2 : t < 0
      · refine ⟨-1, Ev.step ?_, by omega, by omega⟩
        simp only [laws_szPairS.l0, rd102 x i hi]
        exact Ev.pos (by omega) (Ev.pos (by omega) (Ev.cons ht (Ev.pos h2 Ev.pure)))
      · obtain ⟨r, hr, hr2, hr3⟩ := ih t (by omega) hn
        refine ⟨r, Ev.step ?_, fun h3 => ⟨by have := (hr2 h3).1; have := (hm (by omega)).1; omega, ?_⟩, hr3⟩
        · simp only [laws_szPairS.l0, rd102 x i hi, upN i (by omega)]
          exact Ev.pos (by omega) (Ev.pos (by omega) (Ev.cons ht (Ev.neg h2 hr)))
        · intro p hp
          rw [List.drop_eq_getElem_cons hi] at hp
          rcases List.mem_cons.1 hp with rfl | hp
          · exact (hm (by omega)).2
          · exact (hr2 h3).2 p hp
theorem szUsesS_ev (x : List S104) (hx : x.length ≤ 9223372036854775807) (m : Int) (h0 : 0 ≤ m) (h1 : m ≤ 1048576) (ok : ∀ g ∈ x, g.f0.size ≤ 9223372036854775807 ∧ g.f1.size ≤ 9223372036854775807) : ∃ t, Ev (fun k => laws_szUsesS.f k x m) t ∧ (0 ≤ t → t ≤ m ∧ x.length ≤ 1048576) ∧ t ≤ 1048576 := by
  unfold laws_szUsesS.f
  rw [w64 _ (by omega) (by omega)]
  by_cases h : m - (x.length : Int) < 0
  · exact ⟨_, Ev.pos h Ev.pure, by omega, by omega⟩
  · have key := downTo x.length (fun i => ∀ a : Int, 0 ≤ a → a ≤ 1048576 → ∃ t, Ev (fun k => laws_szUsesS.l0 k x a (i : Int)) t ∧ (0 ≤ t → t ≤ a) ∧ t ≤ 1048576) ?_ ?_ 0 (by omega)
    · obtain ⟨t, a, b, c⟩ := key (m - (x.length : Int)) (by omega) (by omega)
      exact ⟨t, Ev.neg h a, fun h3 => ⟨by have := b h3; omega, by omega⟩, c⟩
    · intro a a0 a1
      refine ⟨a, Ev.step ?_, by omega, a1⟩
      simp only [laws_szUsesS.l0]
      exact Ev.neg (by omega) Ev.pure
    · intro i hi ih a a0 a1
      obtain ⟨o1, o2⟩ := ok _ (List.getElem_mem hi)
      obtain ⟨t, ht, hm, hn⟩ := two_f (x[i]).f0 (x[i]).f1 a a0 a1 o1 o2
      have ht : laws_szUses.f (x[i]).f0 (x[i]).f1 a = some t := ht
      by_cases h2 : t < 0
      · refine ⟨-1, Ev.step ?_, by omega, by omega⟩
        simp only [laws_szUsesS.l0, rd104 x i hi]
        exact Ev.pos (by omega) (Ev.pos (by omega) (Ev.cons ht (Ev.pos h2 Ev.pure)))
      · obtain ⟨r, hr, hr2, hr3⟩ := ih t (by omega) hn
        refine ⟨r, Ev.step ?_, fun h3 => by have := hr2 h3; have := (hm (by omega)).1; omega, hr3⟩
        simp only [laws_szUsesS.l0, rd104 x i hi, upN i (by omega)]
        exact Ev.pos (by omega) (Ev.pos (by omega) (Ev.cons ht (Ev.neg h2 hr)))
theorem toPairS_ev (x : List S102) (hx : x.length ≤ 1048576) : Ev (fun k => laws_toPairS.f k x) (x.map cPair) := by
  unfold laws_toPairS.f
  refine Ev.pos (by omega) (Ev.pos (by omega) ?_)
  refine setLoop (fun k y i => laws_toPairS.l0 k x y i) x cPair ?_ ?_ _ (by simp)
  · intro i y r hi hy h
    refine Ev.step ?_
    simp only [laws_toPairS.l0, rd102 x i hi, upN i (by omega), laws_toPair.f]
    exact Ev.pos (by omega) (Ev.pos (by omega) (Ev.cons rfl (Ev.pos (by omega) h)))
  · intro y hy
    refine Ev.step ?_
    simp only [laws_toPairS.l0]
    exact Ev.neg (by omega) Ev.pure
theorem toUsesS_ev (x : List S104) (hx : x.length ≤ 1048576) : Ev (fun k => laws_toUsesS.f k x) (x.map cUses) := by
  unfold laws_toUsesS.f
  refine Ev.pos (by omega) (Ev.pos (by omega) ?_)
  refine setLoop (fun k y i => laws_toUsesS.l0 k x y i) x cUses ?_ ?_ _ (by simp)
  · intro i y r hi hy h
    refine Ev.step ?_
    simp only [laws_toUsesS.l0, rd104 x i hi, upN i (by omega), laws_toUses.f]
    exact Ev.pos (by omega) (Ev.pos (by omega) (Ev.cons rfl (Ev.pos (by omega) h)))
  · intro y hy
    refine Ev.step ?_
    simp only [laws_toUsesS.l0]
    exact Ev.neg (by omega) Ev.pure
theorem eqPairS_ev (x : List S73) (hx : x.length ≤ 1048576) : Ev (fun k => laws_eqPairS.f k x x) true := by
  unfold laws_eqPairS.f
  refine Ev.pos rfl ?_
  refine countLoop (fun k i => laws_eqPairS.l0 k x x i) x.length true ?_ ?_
  · intro i hi h
    refine Ev.step ?_
    simp only [laws_eqPairS.l0, upN i (by omega), laws_eqPair.f]
    exact Ev.pos (by omega) (Ev.pos (by omega) (Ev.pos (by omega) (Ev.cons (by simp) (Ev.pos rfl h))))
  · refine Ev.step ?_
    simp only [laws_eqPairS.l0]
    exact Ev.neg (by omega) Ev.pure
theorem eqUsesS_ev (x : List S75) (hx : x.length ≤ 1048576) : Ev (fun k => laws_eqUsesS.f k x x) true := by
  unfold laws_eqUsesS.f
  refine Ev.pos rfl ?_
  refine countLoop (fun k i => laws_eqUsesS.l0 k x x i) x.length true ?_ ?_
  · intro i hi h
    refine Ev.step ?_
    simp only [laws_eqUsesS.l0, upN i (by omega), laws_eqUses.f]
    exact Ev.pos (by omega) (Ev.pos (by omega) (Ev.pos (by omega) (Ev.cons (by simp) (Ev.pos rfl h))))
  · refine Ev.step ?_
    simp only [laws_eqUsesS.l0]
    exact Ev.neg (by omega) Ev.pure
theorem szDrv_ev (n b : ByteArray) (o : List ByteArray) (fx : ByteArray) (en : List S102) (us : List S104) (sr : List ByteArray) (m : Int) (h0 : 0 ≤ m) (h1 : m ≤ 1048576)
    (hn : n.size ≤ 9223372036854775807) (hb : b.size ≤ 9223372036854775807) (hf : fx.size ≤ 9223372036854775807) (ho : o.length ≤ 9223372036854775807) (oko : ∀ g ∈ o, g.size ≤ 9223372036854775807)
    (he : en.length ≤ 9223372036854775807) (oke : ∀ g ∈ en, g.f0.size ≤ 9223372036854775807 ∧ g.f1.size ≤ 9223372036854775807) (hu : us.length ≤ 9223372036854775807) (oku : ∀ g ∈ us, g.f0.size ≤ 9223372036854775807 ∧ g.f1.size ≤ 9223372036854775807)
    (hs : sr.length ≤ 9223372036854775807) (oks : ∀ g ∈ sr, g.size ≤ 9223372036854775807) :
    ∃ t, Ev (fun k => laws_szDrv.f k n b o fx en us sr m) t ∧ (0 ≤ t → b.size ≤ 1048576 ∧ o.length ≤ 1048576 ∧ en.length ≤ 1048576 ∧ us.length ≤ 1048576 ∧ sr.length ≤ 1048576 ∧ ∀ g ∈ en, g.f1.size ≤ 1048576) := by
  unfold laws_szDrv.f
  rw [w64 (m - (n.size : Int)) (by omega) (by omega)]
  by_cases c1 : m - (n.size : Int) < 0
  · exact ⟨_, Ev.pos c1 Ev.pure, by omega⟩
  rw [w64 (m - (n.size : Int) - (b.size : Int)) (by omega) (by omega)]
  by_cases c2 : m - (n.size : Int) - (b.size : Int) < 0
  · exact ⟨_, Ev.neg c1 (Ev.pos c2 Ev.pure), by omega⟩
  obtain ⟨t1, e1, l1, m1⟩ := szStringS_ev o ho (m - (n.size : Int) - (b.size : Int)) (by omega) (by omega) oko
  by_cases c3 : t1 < 0
  · exact ⟨_, Ev.neg c1 (Ev.neg c2 (Ev.bind e1 (Ev.pos c3 Ev.pure))), by omega⟩
  have w1 : Unit → wrap64 (t1 - (fx.size : Int)) = t1 - (fx.size : Int) := fun _ => w64 _ (by omega) (by omega)
  by_cases c4 : t1 - (fx.size : Int) < 0
  · refine ⟨-1, Ev.neg c1 (Ev.neg c2 (Ev.bind e1 (Ev.neg c3 (Ev.pos (by rw [w1 ()]; exact c4) Ev.pure)))), by omega⟩
  obtain ⟨t2, e2, l2, m2⟩ := szPairS_ev en he (t1 - (fx.size : Int)) (by omega) (by omega) oke
  rw [← w1 ()] at e2
  by_cases c5 : t2 < 0
  · exact ⟨_, Ev.neg c1 (Ev.neg c2 (Ev.bind e1 (Ev.neg c3 (Ev.neg (by rw [w1 ()]; exact c4) (Ev.bind e2 (Ev.pos c5 Ev.pure)))))), by omega⟩
  obtain ⟨t3, e3, l3, m3⟩ := szUsesS_ev us hu t2 (by omega) (by omega) oku
  by_cases c6 : t3 < 0
  · exact ⟨_, Ev.neg c1 (Ev.neg c2 (Ev.bind e1 (Ev.neg c3 (Ev.neg (by rw [w1 ()]; exact c4) (Ev.bind e2 (Ev.neg c5 (Ev.bind e3 (Ev.pos c6 Ev.pure)))))))), by omega⟩
  obtain ⟨t4, e4, l4, m4⟩ := szStringS_ev sr hs t3 (by omega) (by omega) oks
  by_cases c7 : t4 < 0
  · exact ⟨_, Ev.neg c1 (Ev.neg c2 (Ev.bind e1 (Ev.neg c3 (Ev.neg (by rw [w1 ()]; exact c4) (Ev.bind e2 (Ev.neg c5 (Ev.bind e3 (Ev.neg c6 (Ev.bind e4 (Ev.pos c7 Ev.pure)))))))))), by omega⟩
  refine ⟨_, Ev.neg c1 (Ev.neg c2 (Ev.bind e1 (Ev.neg c3 (Ev.neg (by rw [w1 ()]; exact c4) (Ev.bind e2 (Ev.neg c5 (Ev.bind e3 (Ev.neg c6 (Ev.bind e4 (Ev.neg c7 Ev.pure)))))))))), fun _ => ?_⟩
  obtain ⟨p1, p2⟩ := l1 (by omega)
  obtain ⟨p3, p4, p5⟩ := l2 (by omega)
  obtain ⟨p6, p7⟩ := l3 (by omega)
  obtain ⟨p8, p9⟩ := l4 (by omega)
  exact ⟨by omega, p2, p4, p7, p9, p5⟩

theorem FnExactDrvOk : laws_FnExactDrvOk.Pure := by
  intro n b o fx en us sr hn hb ho hf he hu hs
  have mx : maxLen = 9223372036854775807 := by decide
  rw [mx] at *
  refine Ev.at ?_
  unfold laws_FnExactDrvOk.f
  obtain ⟨t, ht, hl⟩ := szDrv_ev n b o fx en us sr 1048576 (by omega) (by omega) hn hb hf ho.1 ho.2 he.1 he.2 hu.1 hu.2 hs.1 hs.2
  refine Ev.bind ht ?_
  by_cases h0 : t < 0
  · exact Ev.pos h0 Ev.pure
  obtain ⟨p1, p2, p3, p4, p5, p6⟩ := hl (by omega)
  have hc : Ev (fun k => laws_toDrv.f k n b o fx en us sr) (n, b, o, fx, en.map cPair, us.map cUses, sr) := by
    unfold laws_toDrv.f
    exact Ev.bind (toStringS_ev o p2) (Ev.bind (toPairS_ev en p3) (Ev.bind (toUsesS_ev us p4) (Ev.bind (toStringS_ev sr p5) Ev.pure)))
  have q3 : (en.map cPair).length ≤ 1048576 := by simpa using p3
  have q4 : (us.map cUses).length ≤ 1048576 := by simpa using p4
  have q6 : ∀ i, (stE (en.map cPair) i).f1.size ≤ 1048576 := by
    intro i
    unfold stE
    rw [List.getD_eq_getElem?_getD, List.getElem?_map]
    by_cases h : i < en.length
    · rw [List.getElem?_eq_getElem h]
      exact p6 _ (List.getElem_mem h)
    · rw [List.getElem?_eq_none (by omega)]
      decide
  obtain ⟨r, r1, r2⟩ := DrvOk_ev n b o fx (en.map cPair) (us.map cUses) sr p1 p2 q3 q4 p5 q6
  have eq : Ev (fun k => laws_eqDrv.f k n b o fx (en.map cPair) (us.map cUses) sr n b o fx (en.map cPair) (us.map cUses) sr) true := by
    unfold laws_eqDrv.f
    exact Ev.pos rfl (Ev.pos rfl (Ev.bind (eqStringS_ev o p2) (Ev.pos rfl (Ev.pos rfl (Ev.bind (eqPairS_ev _ q3) (Ev.pos rfl (Ev.bind (eqUsesS_ev _ q4) (Ev.pos rfl (Ev.bind (eqStringS_ev sr p5) (Ev.pos rfl Ev.pure))))))))))
  exact Ev.neg h0 (Ev.bind hc (Ev.bind r1 (Ev.bind hc (Ev.bind r2 (Ev.neg (by simp) (Ev.bind hc (Ev.bind eq (Ev.pos rfl Ev.pure))))))))

end Go.Proofs.Ytklinldidfdnjaa.Pure
