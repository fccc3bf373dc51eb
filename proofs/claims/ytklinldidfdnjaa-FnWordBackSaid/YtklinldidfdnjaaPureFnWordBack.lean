/- The pure statement of FnWordBack: words and numbers are each other's, and an address that is made is one. -/
import Derived.Test.YtklinldidfdnjaaPFnWordBackx0
import Derived.Test.YtklinldidfdnjaaPFnWordBackx1
import Derived.Test.YtklinldidfdnjaaPFnWordBackx2
import Derived.Test.YtklinldidfdnjaaPFnWordBackx3
import Derived.Test.YtklinldidfdnjaaPFnWordBackx4
import Derived.Test.YtklinldidfdnjaaPFnWordBackx5
import Derived.Test.YtklinldidfdnjaaPFnWordBackx6
import Derived.Test.YtklinldidfdnjaaPFnWordBackx7
import Derived.Laws.BitsLemmas
import Derived.Laws.Bits64b
import Derived.Lib.Bytealg
namespace Go.Proofs.Ytklinldidfdnjaa.Pure
open Go.RowKit Go.Proofs.YtklinldidfdnjaaW.PrintWords Go.Proofs.YtklinldidfdnjaaW.PrintLast Go.Proofs.YtklinldidfdnjaaW.PrintMore Go.Proofs.Ytklinldidfdnjaa.PFnWordBack

theorem u64w (n : Int) (h0 : 0 ≤ n) (h1 : n < 18446744073709551616) : IntKind.u64.wrap n = n := by
  simp [IntKind.wrap, IntKind.signed, IntKind.bits]; omega
theorem i64w (n : Int) (h0 : -9223372036854775808 ≤ n) (h1 : n < 9223372036854775808) : IntKind.i64.wrap n = n := by
  rw [IntKind.wrap_i64]; omega
theorem w64 (n : Int) (h0 : -9223372036854775808 ≤ n) (h1 : n < 9223372036854775808) : wrap64 n = n := by unfold wrap64; omega
theorem up1 (i : Int) (h0 : 0 ≤ i) (h : i < 9223372036854775807) : wrap64 (i + 1) = i + 1 := by unfold wrap64; omega
theorem u64_lo (n : Int) : 0 ≤ IntKind.u64.wrap n := by simp [IntKind.wrap, IntKind.signed, IntKind.bits]; omega
theorem u64_hi (n : Int) : IntKind.u64.wrap n < 18446744073709551616 := by simp [IntKind.wrap, IntKind.signed, IntKind.bits]; omega
theorem u64_wf (x : Int) (h : (Lit.int .u64 x).wf = true) : 0 ≤ x ∧ x < 18446744073709551616 := by
  simp [Lit.wf, IntKind.min, IntKind.max, IntKind.signed, IntKind.bits] at h; omega
theorem and31 (x : Int) (h0 : 0 ≤ x) (h1 : x < 18446744073709551616) : Go.bits .and .u64 x 31 = x % 32 := by
  have := bits_mask .u64 64 (by decide) (fun n a b => u64w n a (by simpa using b)) 5 (by decide) x h0 (by simpa using h1)
  simpa using this
theorem or5 (a c : Int) (h0 : 0 ≤ a) (h1 : a * 32 < 18446744073709551616) (hc0 : 0 ≤ c) (hc : c < 32) : Go.bits .or .u64 (a * 32) c = a * 32 + c := by
  have := bits_join .u64 64 (by decide) (fun n x y => u64w n x (by simpa using y)) 5 (a * 32) c (by omega) (by omega) (by simpa using h1) hc0 (by simpa using hc) (by simp; omega)
  exact this
theorem bt_list (l : List UInt8) (i : Int) : bt ⟨l.toArray⟩ i = ((l.getD i.toNat 0).toNat : Int) := by
  unfold bt
  split
  · rename_i h
    have h' : i.toNat < l.length := by simpa [ByteArray.size] using h
    rw [List.getD_eq_getElem?_getD, List.getElem?_eq_getElem h']
    rfl
  · rename_i h
    have h' : l.length ≤ i.toNat := by simpa [ByteArray.size] using h
    rw [List.getD_eq_getElem?_getD, List.getElem?_eq_none h']; rfl
/-- The alphabet of chapter 1. -/
def alpha : ByteArray := ⟨#[48, 49, 50, 51, 52, 53, 54, 55, 56, 57, 97, 98, 99, 100, 102, 103, 104, 105, 106, 107, 108, 109, 110, 112, 113, 114, 115, 118, 119, 120, 121, 122]⟩
/-- The n-th digit from the right, as its byte. -/
def dg (x : Int) (n : Nat) : Int := bt alpha (x / 2 ^ (5 * n) % 32)
/-- The last n digits. -/
def ds (x : Int) : Nat → List Int
  | 0 => []
  | n + 1 => dg x n :: ds x n
theorem ds_length (x : Int) : ∀ n, (ds x n).length = n
  | 0 => rfl
  | n + 1 => by simp [ds, ds_length x n]
/-- The thirteen bytes. -/
def word (x : Int) : ByteArray := strOfNums (ds x 13)
theorem div_lo (x : Int) (h0 : 0 ≤ x) (n : Nat) : 0 ≤ x / 2 ^ n := Int.ediv_nonneg h0 (by have := Nat.two_pow_pos n; exact_mod_cast Nat.zero_le _)
theorem div_hi (x : Int) (h0 : 0 ≤ x) (n : Nat) : x / 2 ^ n ≤ x := Int.ediv_le_self _ h0
theorem shr5 (x : Int) (n : Nat) (hn : n ≤ 12) : shr .u64 x (5 * n) = x / 2 ^ (5 * n) := by
  unfold shr
  have e : (5 * (n : Int)).toNat = 5 * n := by omega
  rw [e, Nat.min_eq_left (by simp [IntKind.bits]; omega)]
/-- What a byte is worth as a digit; -1: it is none. -/
def dv (c : Int) : Int := Lib.indexByte alpha.data.toList c.toNat.toUInt8
theorem dv_all : ∀ c : Fin 256, -1 ≤ dv (c.val : Int) ∧ dv (c.val : Int) < 32 := by decide +kernel
theorem dv_bounds (c : Int) (h0 : 0 ≤ c) (h1 : c ≤ 255) : -1 ≤ dv c ∧ dv c < 32 := by
  have := dv_all ⟨c.toNat, by omega⟩
  simpa [Int.toNat_of_nonneg h0] using this
/-- The number that thirteen digits tell, from the i-th on. -/
def rwGo (s : ByteArray) : Nat → Int → Nat → Int × Bool
  | 0, x, _ => (x, true)
  | d + 1, x, i => if dv (bt s i) < 0 then (0, false) else if i = 0 ∧ dv (bt s i) > 15 then (0, false) else rwGo s d (x * 32 + dv (bt s i)) (i + 1)
def rw32 (s : ByteArray) : Int × Bool := if s.size = 13 then rwGo s 13 0 0 else (0, false)
/-- The bound that the digits so far keep. -/
def lim (d : Nat) : Int := if d = 13 then 1 else 2 ^ (64 - 5 * d)
theorem lim_all : ∀ d : Fin 13, lim d.val ≤ 18446744073709551616 ∧ 0 < lim d.val ∧ (d.val < 12 → lim (d.val + 1) * 32 = lim d.val) ∧ (d.val = 12 → lim d.val = 16) ∧ lim (d.val + 1) * 32 ≤ 18446744073709551616 := by decide +kernel
theorem word_size (x : Int) : (word x).size = 13 := by unfold word; rw [strOfNums_size, ds_length]

-- Ev
/-- With fuel enough the run answers r. -/
def Ev {α : Type} (f : Nat → Option α) (r : α) : Prop := ∃ K, ∀ k, K ≤ k → f k = some r
theorem Ev.pure {α : Type} {r : α} : Ev (fun _ => some r) r := ⟨0, fun _ _ => rfl⟩
theorem Ev.of {α : Type} {f : Nat → Option α} {r : α} (N : Nat) (h : ∀ k, N ≤ k → f k = some r) : Ev f r := ⟨N, h⟩
theorem Ev.step {α : Type} {f : Nat → Option α} {r : α} (h : Ev (fun k => f (k + 1)) r) : Ev f r := by
  obtain ⟨K, h⟩ := h
  refine ⟨K + 1, fun k hk => ?_⟩
  obtain ⟨m, rfl⟩ : ∃ m, k = m + 1 := ⟨k - 1, by omega⟩
  exact h m (by omega)
theorem Ev.bind {α β : Type} {f : Nat → Option α} {g : Nat → α → Option β} {a : α} {r : β} (h : Ev f a) (h2 : Ev (fun k => g k a) r) : Ev (fun k => (f k).bind (g k)) r := by
  obtain ⟨K, h⟩ := h
  obtain ⟨K2, h2⟩ := h2
  refine ⟨K + K2, fun k hk => ?_⟩
  show (f k).bind (g k) = some r
  rw [h k (by omega)]
  exact h2 k (by omega)
theorem Ev.cons {α β : Type} {x : Option α} {g : Nat → α → Option β} {a : α} {r : β} (h : x = some a) (h2 : Ev (fun k => g k a) r) : Ev (fun k => x.bind (g k)) r := by
  subst h
  exact h2
theorem Ev.pos {α : Type} {c : Prop} [Decidable c] {f g : Nat → Option α} {r : α} (hc : c) (h : Ev f r) : Ev (fun k => if c then f k else g k) r := by
  simpa only [if_pos hc] using h
theorem Ev.neg {α : Type} {c : Prop} [Decidable c] {f g : Nat → Option α} {r : α} (hc : ¬ c) (h : Ev g r) : Ev (fun k => if c then f k else g k) r := by
  simpa only [if_neg hc] using h
theorem Ev.at {α : Type} {f : Nat → Option α} {r : α} (h : Ev f r) : ∃ k, f k = some r := by
  obtain ⟨K, h⟩ := h
  exact ⟨K, h K (Nat.le_refl _)⟩
theorem Ev.uniq {α : Type} {f : Nat → Option α} {r s : α} (h : Ev f r) (h2 : Ev f s) : r = s := by
  obtain ⟨K, h⟩ := h
  obtain ⟨K2, h2⟩ := h2
  have a := h (K + K2) (by omega)
  have b := h2 (K + K2) (by omega)
  rw [a] at b
  exact Option.some.inj b
/-- From the end down. -/
theorem downTo (n : Nat) (P : Nat → Prop) (base : P n) (step : ∀ i, i < n → P (i + 1) → P i) : ∀ i, i ≤ n → P i := by
  intro i hi
  obtain ⟨d, rfl⟩ : ∃ d, i = n - d := ⟨n - i, by omega⟩
  clear hi
  induction d with
  | zero => exact base
  | succ d ih =>
    by_cases h : d < n
    · refine step _ (by omega) ?_
      have e : n - (d + 1) + 1 = n - d := by omega
      rw [e]; exact ih
    · have e : n - (d + 1) = n - d := by omega
      rw [e]; exact ih
theorem upN (i : Nat) (h : i < 1000000000000000) : wrap64 ((i : Int) + 1) = ((i + 1 : Nat) : Int) := by unfold wrap64; omega
theorem dnN (i : Nat) (h : i < 1000000000000000) (h0 : 0 < i) : wrap64 ((i : Int) - 1) = ((i - 1 : Nat) : Int) := by unfold wrap64; omega
/-- A loop that sets place by place leaves the row's picture. -/
theorem setLoop {A B : Type} (L : Nat → List B → Int → Option (List B)) (x : List A) (c : A → B)
    (step : ∀ (i : Nat) (y : List B) (r : List B) (h : i < x.length), y.length = x.length → Ev (fun k => L k (y.set i (c x[i])) ((i + 1 : Nat) : Int)) r → Ev (fun k => L k y (i : Int)) r)
    (stop : ∀ y : List B, y.length = x.length → Ev (fun k => L k y ((x.length : Nat) : Int)) y) :
    ∀ y : List B, y.length = x.length → Ev (fun k => L k y 0) (x.map c) := by
  have main := downTo x.length (fun i => ∀ y : List B, y.length = x.length → y.take i = (x.map c).take i → Ev (fun k => L k y (i : Int)) (x.map c)) ?_ ?_
  · intro y hy
    exact main 0 (by omega) y hy (by simp)
  · intro y hy he
    rw [List.take_of_length_le (by omega), List.take_of_length_le (by simp)] at he
    have := stop y hy
    rw [he] at this
    rw [he] at hy
    exact he ▸ stop y (by rw [he]; exact hy)
  · intro i hi ih y hy he
    refine step i y _ hi hy (ih _ (by simp [hy]) ?_)
    rw [List.take_add_one, List.take_add_one, List.take_set_of_le (by omega), he, List.getElem?_set_self (by omega)]
    simp [List.getElem?_eq_getElem hi]
theorem countLoop {α : Type} (L : Nat → Int → Option α) (n : Nat) (r : α) (step : ∀ i : Nat, i < n → Ev (fun k => L k ((i + 1 : Nat) : Int)) r → Ev (fun k => L k (i : Int)) r) (stop : Ev (fun k => L k ((n : Nat) : Int)) r) : Ev (fun k => L k 0) r :=
  downTo n (fun i => Ev (fun k => L k (i : Int)) r) stop (fun i hi h => step i hi h) 0 (by omega)

-- NameOk
def nmByte (c : Int) : Bool := (decide (97 ≤ c) && decide (c ≤ 122)) || (decide (65 ≤ c) && decide (c ≤ 90)) || (decide (48 ≤ c) && decide (c ≤ 57)) || c == 45 || c == 95 || c == 46 || c == 43
/-- Are n bytes from the i-th on those of a name? -/
def nmGo (s : ByteArray) : Nat → Nat → Bool
  | 0, _ => true
  | d + 1, i => nmByte (bt s i) && nmGo s d (i + 1)
/-- A name. -/
def nmOk (s : ByteArray) : Bool := decide (1 ≤ s.size) && decide (s.size ≤ 60) && !(bt s 0 == 46) && nmGo s s.size 0
theorem l1Letter_f (c : Int) : spec_l1Letter.f c = some ((decide (97 ≤ c) && decide (c ≤ 122)) || (decide (65 ≤ c) && decide (c ≤ 90))) := by
  unfold spec_l1Letter.f
  by_cases h1 : 97 ≤ c <;> by_cases h2 : c ≤ 122 <;> by_cases h3 : 65 ≤ c <;> by_cases h4 : c ≤ 90 <;> simp [h1, h2, h3, h4] <;> omega
theorem l1Digit_f (c : Int) : spec_l1Digit.f c = some (decide (48 ≤ c) && decide (c ≤ 57)) := by
  unfold spec_l1Digit.f
  by_cases h1 : 48 ≤ c <;> by_cases h2 : c ≤ 57 <;> simp [h1, h2]
theorem letter_f (c : Int) : impl_letter.f c = some ((decide (97 ≤ c) && decide (c ≤ 122)) || (decide (65 ≤ c) && decide (c ≤ 90))) := by
  unfold impl_letter.f
  by_cases h1 : 97 ≤ c <;> by_cases h2 : c ≤ 122 <;> by_cases h3 : 65 ≤ c <;> by_cases h4 : c ≤ 90 <;> simp [h1, h2, h3, h4] <;> omega
theorem digit_f (c : Int) : impl_digit.f c = some (decide (48 ≤ c) && decide (c ≤ 57)) := by
  unfold impl_digit.f
  by_cases h1 : 48 ≤ c <;> by_cases h2 : c ≤ 57 <;> simp [h1, h2]
theorem spec_NameOk_loop (s : ByteArray) (hs : s.size ≤ 60) : ∀ (d i k : Nat), i + d = s.size → d < k → spec_NameOk.l0 k s (i : Int) = some (nmGo s d i) := by
  intro d
  induction d with
  | zero =>
    intro i k hi hk
    obtain ⟨k, rfl⟩ : ∃ m, k = m + 1 := ⟨k - 1, by omega⟩
    simp only [spec_NameOk.l0]; rw [if_neg (by omega)]; rfl
  | succ d ih =>
    intro i k hi hk
    obtain ⟨k, rfl⟩ : ∃ m, k = m + 1 := ⟨k - 1, by omega⟩
    have e3 : wrap64 ((i : Int) + 1) = ((i + 1 : Nat) : Int) := by rw [up1 _ (by omega) (by omega)]; omega
    simp only [spec_NameOk.l0, nmGo, nmByte]
    rw [if_pos (by omega), if_pos (by omega), l1Letter_f, l1Digit_f, e3, ih (i + 1) k (by omega) (by omega)]
    simp only [Option.bind_some]
    generalize bt s (i : Int) = c
    generalize nmGo s d (i + 1) = g
    generalize ((decide (97 ≤ c) && decide (c ≤ 122)) || (decide (65 ≤ c) && decide (c ≤ 90))) = p
    generalize (decide (48 ≤ c) && decide (c ≤ 57)) = q
    cases p <;> cases q <;> simp
    by_cases h1 : c = 45
    · simp [h1]
    · by_cases h2 : c = 95
      · simp [h2]
      · by_cases h3 : c = 46
        · simp [h3]
        · by_cases h4 : c = 43
          · simp [h4]
          · simp [h1, h2, h3, h4]
theorem spec_NameOk_f (s : ByteArray) (k : Nat) (hk : 63 ≤ k) : spec_NameOk.f k s = some (nmOk s) := by
  obtain ⟨k, rfl⟩ : ∃ m, k = m + 1 := ⟨k - 1, by omega⟩
  unfold spec_NameOk.f nmOk
  simp only [spec_NameOk.j0]
  by_cases h1 : (s.size : Int) < 1
  · rw [if_pos h1]
    have : ¬ 1 ≤ s.size := by omega
    simp [this]
  · rw [if_neg h1]
    have e1 : 1 ≤ s.size := by omega
    by_cases h2 : (s.size : Int) > 60
    · rw [if_pos h2]
      have : ¬ s.size ≤ 60 := by omega
      simp [this]
    · rw [if_neg h2, if_pos (by omega)]
      have e2 : s.size ≤ 60 := by omega
      have h := spec_NameOk_loop s e2 s.size 0 k (by omega) (by omega)
      rw [show ((0 : Nat) : Int) = 0 from rfl] at h
      rw [h]
      by_cases h3 : bt s 0 = 46
      · simp [h3]
      · simp [h3, e1, e2]
theorem w32_byte (s : ByteArray) (i : Int) : wrap32 (bt s i) = bt s i := by
  have := bt_range s i
  unfold wrap32; omega
theorem impl_NameOk_loop (s : ByteArray) (hs : s.size ≤ 60) : ∀ (d i k : Nat), i + d = s.size → d < k → impl_NameOk.l0 k s (s.size : Int) (i : Int) = some (nmGo s d i) := by
  intro d
  induction d with
  | zero =>
    intro i k hi hk
    obtain ⟨k, rfl⟩ : ∃ m, k = m + 1 := ⟨k - 1, by omega⟩
    simp only [impl_NameOk.l0]; rw [if_neg (by omega)]; rfl
  | succ d ih =>
    intro i k hi hk
    obtain ⟨k, rfl⟩ : ∃ m, k = m + 1 := ⟨k - 1, by omega⟩
    have e3 : wrap64 ((i : Int) + 1) = ((i + 1 : Nat) : Int) := by rw [up1 _ (by omega) (by omega)]; omega
    have hb := bt_range s (i : Int)
    have e4 : strings_ContainsRune.f (⟨#[45, 95, 46, 43]⟩ : ByteArray) (bt s (i : Int)) = some (bt s (i : Int) == 45 || bt s (i : Int) == 95 || bt s (i : Int) == 46 || bt s (i : Int) == 43) := by
      unfold strings_ContainsRune.f
      rw [if_pos (by rw [Lib.toList_data]), if_pos (by omega)]
    simp only [impl_NameOk.l0, nmGo, nmByte]
    rw [if_pos (by omega), if_pos (by omega), if_pos (by omega), letter_f, digit_f, w32_byte, e4, e3, ih (i + 1) k (by omega) (by omega)]
    simp only [Option.bind_some]
    generalize bt s (i : Int) = c
    generalize nmGo s d (i + 1) = g
    generalize ((decide (97 ≤ c) && decide (c ≤ 122)) || (decide (65 ≤ c) && decide (c ≤ 90))) = p
    generalize (decide (48 ≤ c) && decide (c ≤ 57)) = q
    generalize (c == 45) = r1
    generalize (c == 95) = r2
    generalize (c == 46) = r3
    generalize (c == 43) = r4
    cases p <;> cases q <;> cases r1 <;> cases r2 <;> cases r3 <;> cases r4 <;> simp
theorem impl_NameOk_f (s : ByteArray) (k : Nat) (hk : 63 ≤ k) : impl_NameOk.f k s = some (nmOk s) := by
  obtain ⟨k, rfl⟩ : ∃ m, k = m + 1 := ⟨k - 1, by omega⟩
  unfold impl_NameOk.f nmOk
  simp only [impl_NameOk.j0]
  by_cases h1 : (s.size : Int) < 1
  · rw [if_pos h1]
    have : ¬ 1 ≤ s.size := by omega
    simp [this]
  · rw [if_neg h1]
    have e1 : 1 ≤ s.size := by omega
    by_cases h2 : (s.size : Int) > 60
    · rw [if_pos h2]
      have : ¬ s.size ≤ 60 := by omega
      simp [this]
    · rw [if_neg h2, if_pos (by omega)]
      have e2 : s.size ≤ 60 := by omega
      have h := impl_NameOk_loop s e2 s.size 0 k (by omega) (by omega)
      rw [show ((0 : Nat) : Int) = 0 from rfl] at h
      rw [h]
      by_cases h3 : bt s 0 = 46
      · simp [h3]
      · simp [h3, e1, e2]

-- ReadWord32
theorem l1Index_all : ∀ c : Fin 256, spec_l1Index.f 40 (c.val : Int) = some (dv (c.val : Int)) := by decide +kernel
theorem l1Index_f (c : Int) (h0 : 0 ≤ c) (h1 : c ≤ 255) (k : Nat) (hk : 40 ≤ k) : spec_l1Index.f k c = some (dv c) := by
  have := l1Index_all ⟨c.toNat, by omega⟩
  simp only [Int.toNat_of_nonneg h0] at this
  exact at_rounds (g := fun k => spec_l1Index.f k c) (fun k => spec_l1Index.mono c k) hk this
theorem rw_both (s : ByteArray) (hs : s.size = 13) : ∀ (d i : Nat) (x : Int) (k : Nat), i + d = 13 → 0 ≤ x → x < lim d → d + 41 < k →
    spec_ReadWord32.l0 k s x (i : Int) = some (rwGo s d x i) ∧ impl_ReadWord32.l0 k s x (s.size : Int) (i : Int) = some (rwGo s d x i) := by
  intro d
  induction d with
  | zero =>
    intro i x k hi hx hl hk
    obtain ⟨k, rfl⟩ : ∃ m, k = m + 1 := ⟨k - 1, by omega⟩
    constructor
    · simp only [spec_ReadWord32.l0]; rw [if_neg (by omega)]; rfl
    · simp only [impl_ReadWord32.l0]; rw [if_neg (by omega)]; rfl
  | succ d ih =>
    intro i x k hi hx hl hk
    obtain ⟨k, rfl⟩ : ∃ m, k = m + 1 := ⟨k - 1, by omega⟩
    obtain ⟨b0, b1⟩ := bt_range s (i : Int)
    obtain ⟨t0, t1⟩ := dv_bounds (bt s (i : Int)) b0 b1
    have hf := l1Index_f (bt s (i : Int)) b0 b1 k (by omega)
    have hg : strings_IndexByte.f alpha (bt s (i : Int)) = some (dv (bt s (i : Int))) := rfl
    unfold alpha at hg
    have e3 : ((i : Int) + 1) = ((i + 1 : Nat) : Int) := by omega
    obtain ⟨m0, m1, m2, m3, m4⟩ := lim_all ⟨d, by omega⟩
    simp only at m0 m1 m2 m3 m4
    constructor
    · simp only [spec_ReadWord32.l0, rwGo]
      rw [if_pos (by omega), if_pos (by omega), if_pos (by omega), hf]
      simp only [Option.bind_some]
      by_cases h1 : dv (bt s (i : Int)) < 0
      · rw [if_pos h1, if_pos h1]
      · have e4 : IntKind.u64.wrap (IntKind.u64.wrap (x * 32) + IntKind.u64.wrap (dv (bt s (i : Int)))) = x * 32 + dv (bt s (i : Int)) := by
          rw [u64w (x * 32) (by omega) (by omega), u64w (dv _) (by omega) (by omega)]
          by_cases hd : d = 12
          · subst hd
            have hx0 : x = 0 := by simp [lim] at hl; omega
            subst hx0
            exact u64w _ (by omega) (by omega)
          · have := m2 (by omega)
            exact u64w _ (by omega) (by omega)
        rw [if_neg h1, if_neg h1, e4, up1 _ (by omega) (by omega), e3]
        by_cases h0 : i = 0
        · subst h0
          rw [if_pos (by omega)]
          by_cases h2 : dv (bt s ((0 : Nat) : Int)) > 15
          · rw [if_pos h2, if_pos ⟨rfl, h2⟩]
          · have hx0 : x = 0 := by
              have : d = 12 := by omega
              subst this; simp [lim] at hl; omega
            have := m3 (by omega)
            rw [if_neg h2, if_neg (by rintro ⟨_, h⟩; exact h2 h)]
            exact (ih _ _ k (by omega) (by omega) (by omega) (by omega)).1
        · have := m2 (by omega)
          rw [if_neg (by omega), if_neg (by rintro ⟨h, _⟩; exact h0 h)]
          exact (ih _ _ k (by omega) (by omega) (by omega) (by omega)).1
    · simp only [impl_ReadWord32.l0, rwGo]
      rw [if_pos (by omega), if_pos (by omega), if_pos (by omega), hg]
      simp only [Option.bind_some]
      by_cases h1 : dv (bt s (i : Int)) < 0
      · rw [if_pos h1, if_pos h1]
      · have e4 : Go.bits .or .u64 (IntKind.u64.wrap (x * 32)) (IntKind.u64.wrap (dv (bt s (i : Int)))) = x * 32 + dv (bt s (i : Int)) := by
          rw [u64w (dv _) (by omega) (by omega)]
          by_cases hd : d = 12
          · subst hd
            have hx0 : x = 0 := by simp [lim] at hl; omega
            subst hx0
            rw [u64w (0 * 32) (by omega) (by omega)]
            exact or5 0 _ (by omega) (by omega) (by omega) (by omega)
          · have := m2 (by omega)
            rw [u64w (x * 32) (by omega) (by omega)]
            exact or5 x _ (by omega) (by omega) (by omega) (by omega)
        rw [if_neg h1, if_neg h1, e4, up1 _ (by omega) (by omega), e3]
        by_cases h0 : i = 0
        · subst h0
          rw [if_pos (by omega)]
          by_cases h2 : dv (bt s ((0 : Nat) : Int)) > 15
          · rw [if_pos h2, if_pos ⟨rfl, h2⟩]
          · have hx0 : x = 0 := by
              have : d = 12 := by omega
              subst this; simp [lim] at hl; omega
            have := m3 (by omega)
            rw [if_neg h2, if_neg (by rintro ⟨_, h⟩; exact h2 h)]
            exact (ih _ _ k (by omega) (by omega) (by omega) (by omega)).2
        · have := m2 (by omega)
          rw [if_neg (by omega), if_neg (by rintro ⟨h, _⟩; exact h0 h)]
          exact (ih _ _ k (by omega) (by omega) (by omega) (by omega)).2
theorem spec_ReadWord32_f (s : ByteArray) (k : Nat) (hk : 60 ≤ k) : spec_ReadWord32.f k s = some (rw32 s) := by
  unfold spec_ReadWord32.f rw32
  by_cases h : s.size = 13
  · rw [if_pos (by omega), if_pos h]
    exact (rw_both s h 13 0 0 k (by omega) (by omega) (by decide) (by omega)).1
  · rw [if_neg (by omega), if_neg h]
theorem impl_ReadWord32_f (s : ByteArray) (k : Nat) (hk : 60 ≤ k) : impl_ReadWord32.f k s = some (rw32 s) := by
  unfold impl_ReadWord32.f rw32
  by_cases h : s.size = 13
  · rw [if_pos (by omega), if_pos h]
    exact (rw_both s h 13 0 0 k (by omega) (by omega) (by decide) (by omega)).2
  · rw [if_neg (by omega), if_neg h]

-- AddrI
def adOk (s : ByteArray) : Bool := decide (15 ≤ s.size) && bt s 13 == 45 && (rw32 (s.extract 0 13)).2 && nmOk (s.extract 14 s.size)
theorem nm_empty (s : ByteArray) (h : s.size = 0) : nmOk s = false := by simp [nmOk, h]
theorem impl_AddressOk_f (s : ByteArray) (k : Nat) (hk : 64 ≤ k) : impl_AddressOk.f k s = some (adOk s) := by
  unfold impl_AddressOk.f adOk
  by_cases h1 : (s.size : Int) < 14
  · rw [if_pos h1]
    have : ¬ 15 ≤ s.size := by omega
    simp [this]
  · rw [if_neg h1, if_pos (by omega)]
    by_cases h2 : bt s 13 = 45
    · rw [if_pos h2, if_pos (by omega), impl_NameOk_f _ k (by omega), impl_ReadWord32_f _ k (by omega)]
      simp only [Option.bind_some]
      by_cases h4 : nmOk (s.extract 14 s.size) = true
      · have e1 : 15 ≤ s.size := by
          rcases Nat.lt_or_ge s.size 15 with h | h
          · have e : s.size = 14 := by omega
            rw [nm_empty _ (by simp [ByteArray.size_extract]; omega)] at h4
            exact absurd h4 (by decide)
          · exact h
        rw [if_pos h4, if_pos (by omega), if_pos (by omega)]; simp [h2, h4, e1]
      · rw [if_neg h4]; simp [h4]
    · rw [if_neg h2]; simp [h2]

-- Word32
theorem spec_Word32_loop (x : Int) (h0 : 0 ≤ x) (h1 : x < 18446744073709551616) : ∀ (n : Nat) (k : Nat) (acc : List Int), n ≤ 13 → acc.length + n ≤ 13 → n < k →
    spec_Word32.l0 k x acc ((n : Int) - 1) = some (strOfNums (acc ++ ds x n)) := by
  intro n
  induction n with
  | zero =>
    intro k acc _ _ hk
    obtain ⟨k, rfl⟩ : ∃ m, k = m + 1 := ⟨k - 1, by omega⟩
    simp only [spec_Word32.l0]
    rw [if_neg (by omega)]
    simp [ds]
  | succ n ih =>
    intro k acc hn ha hk
    obtain ⟨k, rfl⟩ : ∃ m, k = m + 1 := ⟨k - 1, by omega⟩
    have e0 : (((n + 1 : Nat) : Int) - 1) = (n : Int) := by omega
    have e1 : IntKind.u64.wrap (wrap64 (5 * (n : Int))) = 5 * (n : Int) := by rw [w64 _ (by omega) (by omega), u64w _ (by omega) (by omega)]
    have d0 := div_lo x h0 (5 * n)
    have d1 := div_hi x h0 (5 * n)
    have e2 : Go.bits .and .u64 (shr .u64 x (5 * (n : Int))) 31 = x / 2 ^ (5 * n) % 32 := by rw [shr5 x n (by omega), and31 _ d0 (by omega)]
    rw [e0]
    simp only [spec_Word32.l0]
    rw [if_pos (by omega), e1, e2, if_pos (by omega), if_pos (by omega), if_pos (by omega), if_pos (by omega), w64 _ (by omega) (by omega)]
    rw [ih k _ (by omega) (by simp; omega) (by omega)]
    simp [ds, dg, alpha]
theorem spec_Word32_f (x : Int) (h0 : 0 ≤ x) (h1 : x < 18446744073709551616) (k : Nat) (hk : 13 < k) : spec_Word32.f k x = some (word x) := by
  have := spec_Word32_loop x h0 h1 13 k [] (by omega) (by simp) (by omega)
  exact this
theorem impl_Word32_loop (x : Int) (h0 : 0 ≤ x) (h1 : x < 18446744073709551616) : ∀ (d n : Nat) (k : Nat) (b : List Int), n + d = 13 → b.length = 13 → d < k → b.drop (13 - n) = ds x n →
    impl_Word32.l0 k x b 13 (n : Int) = some (word x) := by
  intro d
  induction d with
  | zero =>
    intro n k b hn hb hk hd
    obtain ⟨k, rfl⟩ : ∃ m, k = m + 1 := ⟨k - 1, by omega⟩
    obtain rfl : n = 13 := by omega
    simp only [impl_Word32.l0]
    rw [if_neg (by omega)]
    simp at hd
    rw [hd]; rfl
  | succ d ih =>
    intro n k b hn hb hk hd
    obtain ⟨k, rfl⟩ : ∃ m, k = m + 1 := ⟨k - 1, by omega⟩
    have e1 : wrap64 (5 * (n : Int)) = 5 * (n : Int) := by rw [w64 _ (by omega) (by omega)]
    have d0 := div_lo x h0 (5 * n)
    have d1 := div_hi x h0 (5 * n)
    have e2 : Go.bits .and .u64 (shr .u64 x (5 * (n : Int))) 31 = x / 2 ^ (5 * n) % 32 := by rw [shr5 x n (by omega), and31 _ d0 (by omega)]
    simp only [impl_Word32.l0]
    rw [if_pos (by omega), e1, e2, if_pos (by omega), if_pos (by omega), if_pos (by omega), w64 (12 - (n : Int)) (by omega) (by omega), if_pos (by omega), if_pos (by omega), up1 _ (by omega) (by omega)]
    have e3 : ((n : Int) + 1) = ((n + 1 : Nat) : Int) := by omega
    rw [e3]
    refine ih (n + 1) k _ (by omega) (by simp [hb]) (by omega) ?_
    have e4 : (12 - (n : Int)).toNat = 12 - n := by omega
    have e5 : 13 - (n + 1) = 12 - n := by omega
    rw [e4, e5, List.drop_set, if_neg (by omega), Nat.sub_self, List.drop_eq_getElem_cons (by omega)]
    have e6 : 12 - n + 1 = 13 - n := by omega
    simp only [List.set_cons_zero, e6, hd, ds, dg, alpha]
theorem impl_Word32_f (x : Int) (h0 : 0 ≤ x) (h1 : x < 18446744073709551616) (k : Nat) (hk : 13 < k) : impl_Word32.f k x = some (word x) := by
  unfold impl_Word32.f
  rw [if_pos (by decide)]
  simp only [Option.bind_some]
  exact impl_Word32_loop x h0 h1 13 0 k _ (by omega) (by simp) (by omega) (by simp [ds])

-- WordBack
theorem bt_nums (l : List Int) (i : Nat) (h : i < l.length) (hr : 0 ≤ l[i] ∧ l[i] ≤ 255) : bt (strOfNums l) (i : Int) = l[i] := by
  have e : (strOfNums l) = ⟨(l.map fun n => UInt8.ofNat n.toNat).toArray⟩ := rfl
  rw [e, bt_list, List.getD_eq_getElem?_getD, Int.toNat_natCast, List.getElem?_map, List.getElem?_eq_getElem h]
  simp only [Option.map_some, Option.getD_some]
  rw [UInt8.toNat_ofNat']
  omega
theorem dg_range (x : Int) (n : Nat) : 0 ≤ dg x n ∧ dg x n ≤ 255 := bt_range _ _
theorem ds_get (x : Int) : ∀ (n i : Nat) (h : i < (ds x n).length), (ds x n)[i] = dg x (n - 1 - i) := by
  intro n
  induction n with
  | zero => intro i h; exact absurd h (by simp [ds])
  | succ n ih =>
    intro i h
    cases i with
    | zero => rfl
    | succ i =>
      have h' : i < (ds x n).length := by simpa [ds] using h
      have := ih i h'
      simp only [ds, List.getElem_cons_succ]
      rw [this]
      congr 1
      omega
theorem bt_word (x : Int) (i : Nat) (h : i < 13) : bt (word x) (i : Int) = dg x (12 - i) := by
  have hl : i < (ds x 13).length := by rw [ds_length]; exact h
  have e := ds_get x 13 i hl
  have := bt_nums (ds x 13) i hl (by rw [e]; exact dg_range _ _)
  unfold word
  rw [this, e]
theorem dv_alpha_all : ∀ j : Fin 32, dv (bt alpha (j.val : Int)) = (j.val : Int) := by decide +kernel
theorem alpha_dv_all : ∀ c : Fin 256, 0 ≤ dv (c.val : Int) → bt alpha (dv (c.val : Int)) = (c.val : Int) := by decide +kernel
theorem dv_alpha (j : Int) (h0 : 0 ≤ j) (h1 : j < 32) : dv (bt alpha j) = j := by
  have := dv_alpha_all ⟨j.toNat, by omega⟩
  simpa [Int.toNat_of_nonneg h0] using this
theorem alpha_dv (c : Int) (h0 : 0 ≤ c) (h1 : c ≤ 255) (h : 0 ≤ dv c) : bt alpha (dv c) = c := by
  have := alpha_dv_all ⟨c.toNat, by omega⟩
  simp only [Int.toNat_of_nonneg h0] at this
  exact this h
theorem pw5 (d : Nat) : (2 : Int) ^ (5 * (d + 1)) = 2 ^ (5 * d) * 32 := by
  rw [show 5 * (d + 1) = 5 * d + 5 by omega, Int.pow_add]
  rfl
theorem div5 (x : Int) (d : Nat) : x / 2 ^ (5 * (d + 1)) = x / 2 ^ (5 * d) / 32 := by
  rw [pw5, Int.ediv_ediv_of_nonneg (by exact_mod_cast Nat.zero_le _)]
/-- A word is read as its number. -/
theorem rw_word (x : Int) (h0 : 0 ≤ x) (h1 : x < 18446744073709551616) : ∀ (d i : Nat), i + d = 13 → rwGo (word x) d (x / 2 ^ (5 * d)) i = (x, true) := by
  intro d
  induction d with
  | zero => intro i _; simp [rwGo]
  | succ d ih =>
    intro i hi
    have q0 : 0 ≤ x / 2 ^ (5 * d) := div_lo x h0 _
    have e : dv (bt (word x) (i : Int)) = x / 2 ^ (5 * d) % 32 := by
      rw [bt_word x i (by omega), show 12 - i = d by omega]
      unfold dg
      exact dv_alpha _ (by omega) (by omega)
    unfold rwGo
    rw [e, if_neg (by omega), if_neg, div5]
    · have e2 : x / 2 ^ (5 * d) / 32 * 32 + x / 2 ^ (5 * d) % 32 = x / 2 ^ (5 * d) := by omega
      rw [e2]
      exact ih (i + 1) (by omega)
    · rintro ⟨rfl, h⟩
      have hd : d = 12 := by omega
      subst hd
      have : (2 : Int) ^ (5 * 12) = 1152921504606846976 := by decide
      rw [this] at h
      omega
theorem rw32_word (x : Int) (h0 : 0 ≤ x) (h1 : x < 18446744073709551616) : rw32 (word x) = (x, true) := by
  unfold rw32
  rw [if_pos (word_size x)]
  have := rw_word x h0 h1 13 0 (by omega)
  have e : (2 : Int) ^ (5 * 13) = 36893488147419103232 := by decide
  rw [e] at this
  have e2 : x / 36893488147419103232 = 0 := by omega
  rw [e2] at this
  exact this
/-- What is read tells the digits. -/
theorem rw_back (s : ByteArray) : ∀ (d i : Nat) (a z : Int), i + d = 13 → 0 ≤ a → rwGo s d a i = (z, true) → 0 ≤ z ∧ z / 2 ^ (5 * d) = a ∧ (i = 0 → a = 0 → z < 18446744073709551616) ∧ ∀ j, i ≤ j → j < 13 → bt alpha (z / 2 ^ (5 * (12 - j)) % 32) = bt s (j : Int) := by
  intro d
  induction d with
  | zero =>
    intro i a z hi ha h
    simp only [rwGo, Prod.mk.injEq, and_true] at h
    subst h
    refine ⟨ha, by simp, fun h => by omega, fun j h1 h2 => by omega⟩
  | succ d ih =>
    intro i a z hi ha h
    unfold rwGo at h
    obtain ⟨b0, b1⟩ := bt_range s (i : Int)
    obtain ⟨t0, t1⟩ := dv_bounds (bt s (i : Int)) b0 b1
    by_cases c1 : dv (bt s (i : Int)) < 0
    · rw [if_pos c1] at h; simp at h
    rw [if_neg c1] at h
    by_cases c2 : i = 0 ∧ dv (bt s (i : Int)) > 15
    · rw [if_pos c2] at h; simp at h
    rw [if_neg c2] at h
    obtain ⟨z0, z1, _, z3⟩ := ih (i + 1) _ z (by omega) (by omega) h
    have q : z / 2 ^ (5 * (d + 1)) = a := by rw [div5, z1]; omega
    refine ⟨z0, q, ?_, ?_⟩
    · intro hi0 ha0
      subst hi0
      subst ha0
      have hd : d = 12 := by omega
      subst hd
      have e : (2 : Int) ^ (5 * 12) = 1152921504606846976 := by decide
      rw [e] at z1
      have : dv (bt s ((0 : Nat) : Int)) ≤ 15 := by
        rcases Int.lt_or_le 15 (dv (bt s ((0 : Nat) : Int))) with hh | hh
        · exact absurd ⟨rfl, hh⟩ c2
        · exact hh
      omega
    · intro j h1 h2
      by_cases hj : j = i
      · subst hj
        rw [show 12 - j = d by omega, z1]
        have e : (a * 32 + dv (bt s (j : Int))) % 32 = dv (bt s (j : Int)) := by omega
        rw [e]
        exact alpha_dv _ b0 b1 (by omega)
      · exact z3 j (by omega) h2
theorem bt_ext {s t : ByteArray} (h : s.size = t.size) (hb : ∀ i : Nat, i < s.size → bt s (i : Int) = bt t (i : Int)) : s = t := by
  apply ByteArray.ext
  apply Array.ext
  · exact h
  · intro i h1 h2
    have := hb i h1
    rw [← bt_at s (i : Int) (by simpa using h1), ← bt_at t (i : Int) (by simpa using h2)] at this
    have e : (s[i]'h1).toNat = (t[i]'h2).toNat := by exact_mod_cast this
    exact UInt8.toNat.inj e
theorem rw32_back (s : ByteArray) (z : Int) (h : rw32 s = (z, true)) : 0 ≤ z ∧ z < 18446744073709551616 ∧ word z = s := by
  unfold rw32 at h
  by_cases hs : s.size = 13
  · rw [if_pos hs] at h
    obtain ⟨z0, _, z2, z3⟩ := rw_back s 13 0 0 z (by omega) (by omega) h
    refine ⟨z0, z2 rfl rfl, bt_ext (by rw [word_size, hs]) fun i hi => ?_⟩
    rw [word_size] at hi
    rw [bt_word z i hi]
    exact z3 i (by omega) hi
  · rw [if_neg hs] at h; simp at h

-- SumI
theorem sum_tailI (h : Int) : ∃ r, (0 ≤ r ∧ r < 18446744073709551616) ∧ ∀ k, impl_Sum.l1 (k + 4) h 0 = some r := by
  have w1 : wrap64 (0 + 1) = 1 := by unfold wrap64; omega
  have w2 : wrap64 (1 + 1) = 2 := by unfold wrap64; omega
  have w3 : wrap64 (2 + 1) = 3 := by unfold wrap64; omega
  simp only [impl_Sum.l1, w1, w2, w3]
  exact ⟨_, ⟨u64_lo _, u64_hi _⟩, fun k => rfl⟩
theorem sum_I (x : List Int) (hx : x.length ≤ 140737488355328) (d : Nat) : ∀ (k : Nat) (h i : Int), 0 ≤ i → i ≤ x.length → (x.length : Int) - i = d → d + 5 < k →
    ∃ r, (0 ≤ r ∧ r < 18446744073709551616) ∧ impl_Sum.l0 k h x (x.length : Int) i = some r := by
  induction d with
  | zero =>
    intro k h i h0 h1 hd hk
    obtain ⟨k, rfl⟩ : ∃ m, k = m + 1 := ⟨k - 1, by omega⟩
    obtain ⟨k, rfl⟩ : ∃ m, k = m + 4 := ⟨k - 4, by omega⟩
    obtain ⟨r, hb, hr⟩ := sum_tailI h
    refine ⟨r, hb, ?_⟩
    simp only [impl_Sum.l0]; rw [if_neg (by omega)]; exact hr k
  | succ d ih =>
    intro k h i h0 h1 hd hk
    obtain ⟨k, rfl⟩ : ∃ m, k = m + 1 := ⟨k - 1, by omega⟩
    have e2 : impl_Sum.l0 (k + 1) h x (x.length : Int) i = impl_Sum.l0 k (IntKind.u64.wrap ((Go.bits .xor .u64 h (IntKind.u64.wrap (rd x i))) * 1099511628211)) x (x.length : Int) (i + 1) := by
      simp only [impl_Sum.l0]; rw [if_pos (by omega), if_pos h0, if_pos (by omega), up1 i h0 (by omega)]
    rw [e2]
    exact ih k _ _ (by omega) (by omega) (by omega) (by omega)
theorem SumI_f (x : List Int) (hx : x.length ≤ 140737488355328) : ∃ r, 0 ≤ r ∧ r < 18446744073709551616 ∧ ∀ k, x.length + 6 ≤ k → impl_Sum.f k x = some r := by
  obtain ⟨r, hb, h2⟩ := sum_I x hx x.length (x.length + 6) 14695981039346656037 0 (by omega) (by omega) (by omega) (by omega)
  have h2' : impl_Sum.f (x.length + 6) x = some r := h2
  exact ⟨r, hb.1, hb.2, fun k hk => at_rounds (g := fun k => impl_Sum.f k x) (fun k => impl_Sum.mono x k) hk h2'⟩

-- Draw1
theorem and255 (x : Int) : 0 ≤ Go.bits .and .i64 x 255 ∧ Go.bits .and .i64 x 255 ≤ 255 := by
  unfold Go.bits
  have h : ((BitVec.ofInt IntKind.i64.bits x) &&& (BitVec.ofInt IntKind.i64.bits 255)).toNat ≤ 255 := by
    rw [BitVec.toNat_and]
    exact Nat.le_trans Nat.and_le_right (by decide)
  simp only []
  rw [i64w _ (by omega) (by omega)]
  omega
theorem l1New_f (l : List Int) (hl : l.length ≤ 1048576) : ∃ h, ∀ k, l.length < k → spec_l1New.f k l = some (l, 0, h) := by
  have key : ∀ (d : Nat) (h i : Int), 0 ≤ i → i ≤ l.length → (l.length : Int) - i = d → ∃ h', ∀ k, d < k → spec_l1New.l0 k l h i = some (l, 0, h') := by
    intro d
    induction d with
    | zero =>
      intro h i h0 h1 hd
      refine ⟨h, fun k hk => ?_⟩
      obtain ⟨k, rfl⟩ : ∃ m, k = m + 1 := ⟨k - 1, by omega⟩
      simp only [spec_l1New.l0]; rw [if_neg (by omega)]
    | succ d ih =>
      intro h i h0 h1 hd
      obtain ⟨h', hh⟩ := ih (Go.bits .and .i64 (wrap64 ((wrap64 ((wrap64 (h * 139)) + (wrap64 (rd l i)))) + 13)) 1073741823) (i + 1) (by omega) (by omega) (by omega)
      refine ⟨h', fun k hk => ?_⟩
      obtain ⟨k, rfl⟩ : ∃ m, k = m + 1 := ⟨k - 1, by omega⟩
      simp only [spec_l1New.l0]; rw [if_pos (by omega), if_pos h0, up1 i h0 (by omega)]
      exact hh k (by omega)
  exact key l.length (wrap64 (57731 + (l.length : Int))) 0 (by omega) (by omega) (by omega)
theorem l1Byte_f (l : List Int) (hl : l.length ≤ 1048576) (i h : Int) (h0 : 0 ≤ i) (h1 : i ≤ l.length) : ∃ b i' h' : Int, 0 ≤ b ∧ b ≤ 255 ∧ 0 ≤ i' ∧ i' ≤ l.length ∧ spec_l1Byte.f l i h = some (b, i', h') := by
  unfold spec_l1Byte.f
  by_cases hc : i < (l.length : Int)
  · rw [if_pos hc, if_pos h0, up1 i h0 (by omega)]
    exact ⟨_, _, _, (and255 _).1, (and255 _).2, by omega, by omega, rfl⟩
  · rw [if_neg hc]
    exact ⟨_, _, _, (and255 _).1, (and255 _).2, h0, h1, rfl⟩
theorem l1Below_f (l : List Int) (hl : l.length ≤ 1048576) (i h n : Int) (h0 : 0 ≤ i) (h1 : i ≤ l.length) : ∃ b i' h' : Int, 0 ≤ b ∧ (0 < n → b < n) ∧ (n ≤ 0 → b = 0) ∧ 0 ≤ i' ∧ i' ≤ l.length ∧ spec_l1Below.f l i h n = some (b, i', h') := by
  unfold spec_l1Below.f
  by_cases hn : n ≤ 0
  · rw [if_pos hn]; exact ⟨0, i, h, by omega, by omega, fun _ => rfl, h0, h1, rfl⟩
  · rw [if_neg hn]
    obtain ⟨b1, i1, g1, a0, a1, c0, c1, e1⟩ := l1Byte_f l hl i h h0 h1
    rw [e1]
    simp only [Option.bind_some]
    by_cases h256 : n ≤ 256
    · rw [if_pos h256, if_neg (by omega), Int.tmod_eq_emod_of_nonneg a0]
      exact ⟨_, _, _, Int.emod_nonneg _ (by omega), fun hp => Int.emod_lt_of_pos _ hp, by omega, c0, c1, rfl⟩
    · rw [if_neg h256]
      obtain ⟨b2, i2, g2, a2, a3, c2, c3, e2⟩ := l1Byte_f l hl i1 g1 c0 c1
      rw [e2]
      simp only [Option.bind_some]
      obtain ⟨b3, i3, g3, a4, a5, c4, c5, e3⟩ := l1Byte_f l hl i2 g2 c2 c3
      rw [e3]
      simp only [Option.bind_some]
      obtain ⟨b4, i4, g4, a6, a7, c6, c7, e4⟩ := l1Byte_f l hl i3 g3 c4 c5
      rw [e4]
      simp only [Option.bind_some]
      rw [if_neg (by omega), w64 (b1 * 16777216) (by omega) (by omega), w64 (b2 * 65536) (by omega) (by omega), w64 (b3 * 256) (by omega) (by omega), w64 (b1 * 16777216 + b2 * 65536) (by omega) (by omega),
        w64 (b1 * 16777216 + b2 * 65536 + b3 * 256) (by omega) (by omega), w64 (b1 * 16777216 + b2 * 65536 + b3 * 256 + b4) (by omega) (by omega), Int.tmod_eq_emod_of_nonneg (by omega)]
      exact ⟨_, _, _, Int.emod_nonneg _ (by omega), fun hp => Int.emod_lt_of_pos _ hp, by omega, c6, c7, rfl⟩
theorem l1Once_f (l : List Int) (hl : l.length ≤ 1048576) (i h n : Int) (h0 : 0 ≤ i) (h1 : i ≤ l.length) : ∃ (b : Bool) (i' h' : Int), 0 ≤ i' ∧ i' ≤ l.length ∧ spec_l1Once.f l i h n = some (b, i', h') := by
  unfold spec_l1Once.f
  obtain ⟨b1, i1, g1, _, _, _, c0, c1, e1⟩ := l1Below_f l hl i h n h0 h1
  rw [e1]
  exact ⟨_, _, _, c0, c1, rfl⟩

-- Draw1U64
theorem l1U64_loop (l : List Int) (hl : l.length ≤ 1048576) : ∀ (d : Nat) (x n i h : Int), 0 ≤ n → n + d = 8 → 0 ≤ x → x < 18446744073709551616 → 0 ≤ i → i ≤ l.length →
    ∃ r i' h' : Int, 0 ≤ r ∧ r < 18446744073709551616 ∧ 0 ≤ i' ∧ i' ≤ l.length ∧ ∀ k, d < k → spec_l1U64.l0 k x n l i h = some (r, i', h') := by
  intro d
  induction d with
  | zero =>
    intro x n i h n0 hn x0 x1 h0 h1
    obtain ⟨b1, i1, g1, c0, c1, e1⟩ := l1Once_f l hl i h 8 h0 h1
    have step : ∀ k, spec_l1U64.l0 (k + 1) x n l i h = if b1 = true then ((some (([0, 1, 18446744073709551615, 9223372036854775808] : List Int) : List Int)).bind fun y130 => ((spec_l1Below.f l i1 g1 4).bind fun bt133 => (if 0 ≤ bt133.1 then (if bt133.1 < (y130.length : Int) then (some (rd y130 bt133.1, bt133.2.1, bt133.2.2)) else (none)) else (none)))) else (some (x, i1, g1)) := by
      intro k
      simp only [spec_l1U64.l0]
      rw [if_neg (by omega), e1]
      rfl
    by_cases hb : b1 = true
    · obtain ⟨b2, i2, g2, a0, a1, _, d0, d1, e2⟩ := l1Below_f l hl i1 g1 4 c0 c1
      have hr : 0 ≤ rd [0, 1, 18446744073709551615, 9223372036854775808] b2 ∧ rd [0, 1, 18446744073709551615, 9223372036854775808] b2 < 18446744073709551616 := by
        have := a1 (by omega)
        obtain h | h | h | h : b2 = 0 ∨ b2 = 1 ∨ b2 = 2 ∨ b2 = 3 := by omega
        all_goals (subst h; decide)
      refine ⟨_, i2, g2, hr.1, hr.2, d0, d1, fun k hk => ?_⟩
      obtain ⟨k, rfl⟩ : ∃ m, k = m + 1 := ⟨k - 1, by omega⟩
      rw [step, if_pos hb]
      simp only [Option.bind_some]
      rw [e2]
      simp only [Option.bind_some]
      have a2 := a1 (by omega)
      rw [if_pos a0, if_pos (show b2 < (([0, 1, 18446744073709551615, 9223372036854775808] : List Int).length : Int) from a2)]
    · refine ⟨x, i1, g1, x0, x1, c0, c1, fun k hk => ?_⟩
      obtain ⟨k, rfl⟩ : ∃ m, k = m + 1 := ⟨k - 1, by omega⟩
      rw [step, if_neg hb]
  | succ d ih =>
    intro x n i h n0 hn x0 x1 h0 h1
    obtain ⟨b1, i1, g1, a0, a1, c0, c1, e1⟩ := l1Byte_f l hl i h h0 h1
    obtain ⟨r, i', h', r0, r1, d0, d1, hh⟩ := ih (IntKind.u64.wrap ((IntKind.u64.wrap (x * 256)) + (IntKind.u64.wrap b1))) (n + 1) i1 g1 (by omega) (by omega) (u64_lo _) (u64_hi _) c0 c1
    refine ⟨r, i', h', r0, r1, d0, d1, fun k hk => ?_⟩
    obtain ⟨k, rfl⟩ : ∃ m, k = m + 1 := ⟨k - 1, by omega⟩
    simp only [spec_l1U64.l0]
    rw [if_pos (by omega), e1]
    simp only [Option.bind_some]
    rw [up1 n n0 (by omega)]
    exact hh k (by omega)
theorem l1U64_f (l : List Int) (hl : l.length ≤ 1048576) (i h : Int) (h0 : 0 ≤ i) (h1 : i ≤ l.length) : ∃ r i' h' : Int, 0 ≤ r ∧ r < 18446744073709551616 ∧ 0 ≤ i' ∧ i' ≤ l.length ∧ ∀ k, 8 < k → spec_l1U64.f k l i h = some (r, i', h') :=
  l1U64_loop l hl 8 0 0 i h (by omega) (by omega) (by omega) (by omega) h0 h1

-- DrawAddr
theorem nine (ys : List ByteArray) (N : Nat) (hN : ∀ s ∈ ys, s.size ≤ N) (i : Int) (h0 : 0 ≤ i) (h1 : i < (ys.length : Int)) : (rdOf ByteArray.empty ys i).size ≤ N := by
  have e : rdOf ByteArray.empty ys i = ys.getD i.toNat ByteArray.empty := rfl
  rw [e, List.getD_eq_getElem?_getD, List.getElem?_eq_getElem (by omega)]
  exact hN _ (List.getElem_mem _)
theorem l1Name_loop (l : List Int) (hl : l.length ≤ 1048576) : ∀ (d : Nat) (x : ByteArray) (i h : Int), x.size + d = 61 → 0 ≤ i → i ≤ l.length → ∃ (r : ByteArray) (i' h' : Int), r.size ≤ 61 ∧ 0 ≤ i' ∧ i' ≤ l.length ∧ Ev (fun k => spec_l1Name.l0 k x l i h) (r, i', h') := by
  intro d
  induction d with
  | zero =>
    intro x i h hx h0 h1
    obtain ⟨b, i1, g1, b0, b1, _, c0, c1, e1⟩ := l1Below_f l hl i h 3 h0 h1
    have hw : wrap64 (59 + b) = 59 + b := w64 _ (by omega) (by have := b1 (by omega); omega)
    refine ⟨x, i1, g1, by omega, c0, c1, Ev.step ?_⟩
    simp only [spec_l1Name.l0]
    refine Ev.cons e1 ?_
    simp only [hw]
    by_cases c : (x.size : Int) < 59 + b
    · exact Ev.pos c (Ev.neg (by omega) Ev.pure)
    · exact Ev.neg c Ev.pure
  | succ d ih =>
    intro x i h hx h0 h1
    obtain ⟨b, i1, g1, b0, b1, _, c0, c1, e1⟩ := l1Below_f l hl i h 3 h0 h1
    have hw : wrap64 (59 + b) = 59 + b := w64 _ (by omega) (by have := b1 (by omega); omega)
    by_cases c : (x.size : Int) < 59 + b
    · have hz : (x ++ (⟨#[113]⟩ : ByteArray)).size + d = 61 := by
        simp only [ByteArray.size_append, ByteArray.size_mk', List.size_toArray, List.length_cons, List.length_nil]
        omega
      obtain ⟨r, i', h', r0, d0, d1, e⟩ := ih (x ++ (⟨#[113]⟩ : ByteArray)) i1 g1 hz c0 c1
      refine ⟨r, i', h', r0, d0, d1, Ev.step ?_⟩
      simp only [spec_l1Name.l0]
      refine Ev.cons e1 ?_
      simp only [hw]
      exact Ev.pos c (Ev.pos (by omega) (Ev.pos (by omega) e))
    · refine ⟨x, i1, g1, by omega, c0, c1, Ev.step ?_⟩
      simp only [spec_l1Name.l0]
      refine Ev.cons e1 ?_
      simp only [hw]
      exact Ev.neg c Ev.pure
theorem l1Name_end (l : List Int) (hl : l.length ≤ 1048576) (x : ByteArray) (hx : x.size ≤ 61) (i h : Int) (h0 : 0 ≤ i) (h1 : i ≤ l.length) : ∃ (r : ByteArray) (i' h' : Int), r.size ≤ 61 ∧ 0 ≤ i' ∧ i' ≤ l.length ∧ Ev (fun k => spec_l1Name.j0 k x l i h) (r, i', h') := by
  obtain ⟨b, i1, g1, c0, c1, e1⟩ := l1Once_f l hl i h 40 h0 h1
  by_cases c : b = true
  · obtain ⟨r, i', h', r0, d0, d1, e⟩ := l1Name_loop l hl 60 (⟨#[113]⟩ : ByteArray) i1 g1 (by decide) c0 c1
    refine ⟨r, i', h', r0, d0, d1, Ev.step ?_⟩
    simp only [spec_l1Name.j0]
    exact Ev.cons e1 (Ev.pos c e)
  · refine ⟨x, i1, g1, hx, c0, c1, Ev.step ?_⟩
    simp only [spec_l1Name.j0]
    exact Ev.cons e1 (Ev.neg c Ev.pure)
theorem l1Name_f (l : List Int) (hl : l.length ≤ 1048576) (i h : Int) (h0 : 0 ≤ i) (h1 : i ≤ l.length) : ∃ (r : ByteArray) (i' h' : Int), r.size ≤ 61 ∧ 0 ≤ i' ∧ i' ≤ l.length ∧ Ev (fun k => spec_l1Name.f k l i h) (r, i', h') := by
  obtain ⟨b, i1, g1, b0, b1, _, c0, c1, e1⟩ := l1Below_f l hl i h 9 h0 h1
  obtain ⟨o, i2, g2, c2, c3, e2⟩ := l1Once_f l hl i1 g1 30 c0 c1
  have b1' := b1 (by omega)
  by_cases c : o = true
  · obtain ⟨b3, i3, g3, b4, b5, _, c4, c5, e3⟩ := l1Below_f l hl i2 g2 6 c2 c3
    have b5' := b5 (by omega)
    obtain ⟨r, i', h', r0, d0, d1, e⟩ := l1Name_end l hl (rdOf ByteArray.empty [(⟨#[]⟩ : ByteArray), (⟨#[46, 97]⟩ : ByteArray), (⟨#[97, 32, 98]⟩ : ByteArray), (⟨#[97, 47, 98]⟩ : ByteArray), (⟨#[48]⟩ : ByteArray), strOfNums (List.replicate 61 0)] b3)
      (nine _ 61 (by
        intro s hs
        simp only [List.mem_cons, List.not_mem_nil, or_false] at hs
        rcases hs with rfl | rfl | rfl | rfl | rfl | rfl
        all_goals first | decide | (rw [strOfNums_size, List.length_replicate]; exact Nat.le_refl _)) _ b4 b5') i3 g3 c4 c5
    refine ⟨r, i', h', r0, d0, d1, ?_⟩
    unfold spec_l1Name.f
    exact Ev.cons rfl (Ev.cons e1 (Ev.pos b0 (Ev.pos b1' (Ev.cons e2 (Ev.pos c (Ev.pos (by omega) (Ev.cons rfl (Ev.cons e3 (Ev.pos b4 (Ev.pos b5' e))))))))))
  · obtain ⟨r, i', h', r0, d0, d1, e⟩ := l1Name_end l hl (rdOf ByteArray.empty [(⟨#[97]⟩ : ByteArray), (⟨#[98]⟩ : ByteArray), (⟨#[108, 105, 98]⟩ : ByteArray), (⟨#[116, 111, 111, 108]⟩ : ByteArray), (⟨#[97, 112, 112]⟩ : ByteArray), (⟨#[99, 111, 114, 101, 45, 50]⟩ : ByteArray), (⟨#[120, 95, 121]⟩ : ByteArray), (⟨#[122, 46, 115, 111]⟩ : ByteArray), (⟨#[110, 43, 49]⟩ : ByteArray)] b)
      (nine _ 61 (by
        intro s hs
        simp only [List.mem_cons, List.not_mem_nil, or_false] at hs
        rcases hs with rfl | rfl | rfl | rfl | rfl | rfl | rfl | rfl | rfl
        all_goals decide) _ b0 b1') i2 g2 c2 c3
    refine ⟨r, i', h', r0, d0, d1, ?_⟩
    unfold spec_l1Name.f
    exact Ev.cons rfl (Ev.cons e1 (Ev.pos b0 (Ev.pos b1' (Ev.cons e2 (Ev.neg c e)))))
theorem l1Some_loop (l : List Int) (hl : l.length ≤ 1048576) (n : Int) (hn : n ≤ 100000) : ∀ (d : Nat) (xs : List Int) (j i h : Int), 0 ≤ j → j + d = n → (xs.length : Int) = j → (∀ x ∈ xs, (Lit.int .u8 x).wf = true) → 0 ≤ i → i ≤ l.length → ∃ (r : List Int) (i' h' : Int), (r.length : Int) = n ∧ (∀ x ∈ r, (Lit.int .u8 x).wf = true) ∧ 0 ≤ i' ∧ i' ≤ l.length ∧ Ev (fun k => spec_l1Some.l0 k n xs j l i h) (r, i', h') := by
  intro d
  induction d with
  | zero =>
    intro xs j i h j0 hj hx hw h0 h1
    refine ⟨xs, i, h, by omega, hw, h0, h1, Ev.step ?_⟩
    simp only [spec_l1Some.l0]
    exact Ev.neg (by omega) Ev.pure
  | succ d ih =>
    intro xs j i h j0 hj hx hw h0 h1
    obtain ⟨b, i1, g1, b0, b1, _, c0, c1, e1⟩ := l1Below_f l hl i h 256 h0 h1
    have b1' := b1 (by omega)
    obtain ⟨r, i', h', r0, r1, d0, d1, e⟩ := ih (xs ++ [b % 256]) (j + 1) i1 g1 (by omega) (by omega) (by rw [List.length_append, List.length_singleton]; omega) (by
      intro x hm
      rcases List.mem_append.1 hm with hm | hm
      · exact hw x hm
      · rw [List.mem_singleton.1 hm]
        simp [Lit.wf, IntKind.min, IntKind.max, IntKind.signed, IntKind.bits]
        omega) c0 c1
    refine ⟨r, i', h', r0, r1, d0, d1, Ev.step ?_⟩
    simp only [spec_l1Some.l0]
    refine Ev.pos (by omega) (Ev.cons e1 (Ev.pos (by omega) ?_))
    simp only [up1 j j0 (by omega)]
    exact e
theorem l1Some_f (l : List Int) (hl : l.length ≤ 1048576) (n i h : Int) (hn0 : 0 ≤ n) (hn : n ≤ 100000) (h0 : 0 ≤ i) (h1 : i ≤ l.length) : ∃ (r : List Int) (i' h' : Int), (r.length : Int) = n ∧ (∀ x ∈ r, (Lit.int .u8 x).wf = true) ∧ 0 ≤ i' ∧ i' ≤ l.length ∧ Ev (fun k => spec_l1Some.f k l i h n) (r, i', h') :=
  l1Some_loop l hl n hn n.toNat [] 0 i h (by omega) (by omega) rfl (by simp) h0 h1
theorem DrawAddress_f (l : List Int) (hl : l.length ≤ 1048576) : ∃ (s t : ByteArray) (b : List Int), s.size ≤ 61 ∧ t.size ≤ 61 ∧ b.length ≤ 20 ∧ (∀ x ∈ b, (Lit.int .u8 x).wf = true) ∧ Ev (fun k => spec_DrawAddress.f k l) (s, t, b) := by
  obtain ⟨g0, e0⟩ := l1New_f l hl
  obtain ⟨s, i1, g1, s0, c0, c1, e1⟩ := l1Name_f l hl 0 g0 (by omega) (by omega)
  obtain ⟨t, i2, g2, t0, c2, c3, e2⟩ := l1Name_f l hl i1 g1 c0 c1
  obtain ⟨n, i3, g3, n0, n1, _, c4, c5, e3⟩ := l1Below_f l hl i2 g2 20 c2 c3
  have n1' := n1 (by omega)
  obtain ⟨b, i4, g4, bl, bw, _, _, e4⟩ := l1Some_f l hl n i3 g3 n0 (by omega) c4 c5
  refine ⟨s, t, b, s0, t0, by omega, bw, ?_⟩
  unfold spec_DrawAddress.f
  exact Ev.bind (Ev.of (l.length + 1) (fun k hk => e0 k (by omega))) (Ev.bind e1 (Ev.bind e2 (Ev.cons e3 (Ev.bind e4 Ev.pure))))

theorem bytesL_append (s t : ByteArray) : bytesL (s ++ t) = bytesL s ++ bytesL t := by
  unfold bytesL
  rw [ByteArray.data_append, Array.toList_append, List.map_append]
theorem bytesL_nums (l : List Int) (h : ∀ x ∈ l, (Lit.int .u8 x).wf = true) : bytesL (strOfNums l) = l := by
  unfold bytesL
  rw [strOfNums_data, List.map_map]
  conv => rhs; rw [← List.map_id l]
  refine List.map_congr_left fun x hx => ?_
  have hw := h x hx
  simp [Lit.wf, IntKind.min, IntKind.max, IntKind.signed, IntKind.bits] at hw
  simp only [Function.comp, id]
  rw [UInt8.toNat_ofNat']
  omega
theorem DrawReadWord32_f (l : List Int) (hl : l.length ≤ 1048576) : ∃ s : ByteArray, Ev (fun k => spec_DrawReadWord32.f k l) s := by
  obtain ⟨g0, e0⟩ := l1New_f l hl
  obtain ⟨x, i1, g1, x0, x1, c0, c1, e1⟩ := l1U64_f l hl 0 g0 (by omega) (by omega)
  obtain ⟨o, i2, g2, c2, c3, e2⟩ := l1Once_f l hl i1 g1 4 c0 c1
  have tail : ∀ (xs : List Int) (i h : Int), 0 ≤ i → i ≤ l.length → ∃ s : ByteArray, drw2 xs l i h = some s := by
    intro xs i h h0 h1
    obtain ⟨o3, i3, g3, c4, c5, e3⟩ := l1Once_f l hl i h 10 h0 h1
    obtain ⟨o4, i4, g4, _, _, e4⟩ := l1Once_f l hl i3 g3 10 c4 c5
    unfold drw2 drw3
    rw [e3]
    simp only [Option.bind_some]
    rw [e4]
    exact ⟨_, rfl⟩
  have n1 : Ev (fun k => spec_l1New.f k l) (l, 0, g0) := Ev.of (l.length + 1) (fun k hk => e0 k (by omega))
  have n2 : Ev (fun k => spec_l1U64.f k l 0 g0) (x, i1, g1) := Ev.of 9 (fun k hk => e1 k (by omega))
  have n3 : Ev (fun k => spec_Word32.f k x) (word x) := Ev.of 14 (fun k hk => spec_Word32_f x x0 x1 k (by omega))
  by_cases c : o = true
  · obtain ⟨y, i3, g3, y0, y1, _, c4, c5, e3⟩ := l1Below_f l hl i2 g2 128 c2 c3
    obtain ⟨z, i4, g4, z0, z1, _, c6, c7, e4⟩ := l1Below_f l hl i3 g3 13 c4 c5
    obtain ⟨s, e5⟩ := tail ((bytesL (word x)).set z.toNat (y % 256)) i4 g4 c6 c7
    refine ⟨s, ?_⟩
    unfold spec_DrawReadWord32.f
    exact Ev.bind n1 (Ev.bind n2 (Ev.bind n3 (Ev.pos (word_size x) (Ev.cons e2 (Ev.pos c (Ev.cons e3 (Ev.cons e4 (Ev.pos ⟨z0, z1 (by omega)⟩ (Ev.of 0 (fun _ _ => e5))))))))))
  · obtain ⟨s, e5⟩ := tail (bytesL (word x)) i2 g2 c2 c3
    refine ⟨s, ?_⟩
    unfold spec_DrawReadWord32.f
    exact Ev.bind n1 (Ev.bind n2 (Ev.bind n3 (Ev.pos (word_size x) (Ev.cons e2 (Ev.neg c (Ev.of 0 (fun _ _ => e5)))))))
theorem ext_left (a b : ByteArray) (n : Nat) (h : a.size = n) : (a ++ b).extract 0 n = a := by
  exact ByteArray.extract_append_eq_left h.symm
theorem ext_right (a b : ByteArray) (n : Nat) (h : a.size = n) : (a ++ b).extract n (a ++ b).size = b := by
  exact ByteArray.extract_append_eq_right h.symm (ByteArray.size_append ..)
theorem bt_app (a b : ByteArray) (i : Nat) (h : i < a.size) : bt (a ++ b) (i : Int) = bt a (i : Int) := by
  rw [← bt_at a (i : Int) (by simpa using h), ← bt_at (a ++ b) (i : Int) (by rw [ByteArray.size_append]; simp; omega)]
  congr 2
  simp only [Int.toNat_natCast]
  rw [ByteArray.getElem_append_left h]
/-- An address that is made is one. -/
theorem made_ok (h : Int) (h0 : 0 ≤ h) (h1 : h < 18446744073709551616) (n : ByteArray) (hn : nmOk n = true) : adOk ((word h ++ (⟨#[45]⟩ : ByteArray)) ++ n) = true ∧ ((word h ++ (⟨#[45]⟩ : ByteArray)) ++ n).extract 14 ((word h ++ (⟨#[45]⟩ : ByteArray)) ++ n).size = n ∧ ((word h ++ (⟨#[45]⟩ : ByteArray)) ++ n).extract 0 13 = word h ∧ 14 ≤ ((word h ++ (⟨#[45]⟩ : ByteArray)) ++ n).size := by
  have hs : (word h ++ (⟨#[45]⟩ : ByteArray)).size = 14 := by
    rw [ByteArray.size_append, word_size]
    rfl
  have hn1 : 1 ≤ n.size := by
    rcases Nat.eq_zero_or_pos n.size with hz | hz
    · rw [nm_empty n hz] at hn; exact absurd hn (by decide)
    · exact hz
  have a1 := ext_right (word h ++ (⟨#[45]⟩ : ByteArray)) n 14 hs
  have a2 : ((word h ++ (⟨#[45]⟩ : ByteArray)) ++ n).extract 0 13 = word h := by
    rw [ByteArray.append_assoc]
    exact ext_left _ _ 13 (word_size h)
  have a3 : bt ((word h ++ (⟨#[45]⟩ : ByteArray)) ++ n) 13 = 45 := by
    have e := bt_app (word h ++ (⟨#[45]⟩ : ByteArray)) n 13 (by omega)
    have e2 : ((13 : Nat) : Int) = 13 := rfl
    rw [e2] at e
    rw [e, ← bt_at _ 13 (by rw [hs]; decide)]
    have : (word h ++ (⟨#[45]⟩ : ByteArray))[(13 : Int).toNat]'(by rw [hs]; decide) = 45 := by
      rw [ByteArray.getElem_append_right (by rw [word_size]; decide)]
      simp only [word_size]
      rfl
    rw [this]
    rfl
  refine ⟨?_, a1, a2, by rw [ByteArray.size_append, hs]; omega⟩
  unfold adOk
  rw [a1, a2, a3, rw32_word h h0 h1, hn]
  have : decide (15 ≤ ((word h ++ (⟨#[45]⟩ : ByteArray)) ++ n).size) = true := by
    rw [ByteArray.size_append, hs]
    exact decide_eq_true (by omega)
  rw [this]
  rfl
theorem wbA_f (l : List Int) (hl : l.length ≤ 1048576) : Ev (fun k => wbA k l) true := by
  obtain ⟨s, t, b, s0, t0, bl, bw, e⟩ := DrawAddress_f l hl
  unfold wbA
  refine Ev.bind e ?_
  have n1 : Ev (fun k => spec_NameOk.f k s) (nmOk s) := Ev.of 63 (fun k hk => spec_NameOk_f s k hk)
  have n2 : Ev (fun k => impl_NameOk.f k s) (nmOk s) := Ev.of 63 (fun k hk => impl_NameOk_f s k hk)
  have n3 : Ev (fun k => spec_NameOk.f k t) (nmOk t) := Ev.of 63 (fun k hk => spec_NameOk_f t k hk)
  have n4 : Ev (fun k => impl_NameOk.f k t) (nmOk t) := Ev.of 63 (fun k hk => impl_NameOk_f t k hk)
  by_cases d1 : nmOk s = true
  · by_cases d2 : nmOk t = true
    · have eb : bytesL ((((s ++ (⟨#[58]⟩ : ByteArray)) ++ t) ++ (⟨#[58]⟩ : ByteArray)) ++ strOfNums b) = bytesL (((s ++ (⟨#[58]⟩ : ByteArray)) ++ t) ++ (⟨#[58]⟩ : ByteArray)) ++ b := by
        rw [bytesL_append _ (strOfNums b), bytesL_nums b bw]
      have hlen : (bytesL (((s ++ (⟨#[58]⟩ : ByteArray)) ++ t) ++ (⟨#[58]⟩ : ByteArray)) ++ b).length ≤ 140737488355328 := by
        rw [List.length_append, bytesL_length]
        simp only [ByteArray.size_append, ByteArray.size_mk', List.size_toArray, List.length_cons, List.length_nil]
        omega
      obtain ⟨h, h0, h1, hh⟩ := SumI_f _ hlen
      have s2 : Ev (fun k => impl_Sum.f k (bytesL (((s ++ (⟨#[58]⟩ : ByteArray)) ++ t) ++ (⟨#[58]⟩ : ByteArray)) ++ b)) h := Ev.of _ (fun k hk => hh k hk)
      have w2 : Ev (fun k => impl_Word32.f k h) (word h) := Ev.of 14 (fun k hk => impl_Word32_f h h0 h1 k (by omega))
      have ws : (word h).size ≤ 100 := by rw [word_size]; omega
      obtain ⟨m1, m2, m3, m4⟩ := made_ok h h0 h1 t d2
      have ad : Ev (fun k => impl_Address.f k s t b) ((word h ++ (⟨#[45]⟩ : ByteArray)) ++ t) := by
        unfold impl_Address.f
        refine Ev.bind n2 (Ev.pos d1 (Ev.bind n4 (Ev.pos d2 (Ev.pos (by omega) ?_))))
        rw [eb]
        exact Ev.bind s2 (Ev.bind w2 (Ev.pos ws Ev.pure))
      refine Ev.bind ad (Ev.bind n1 (Ev.pos d1 (Ev.bind n3 (Ev.pos d2 ?_))))
      unfold wbT
      exact Ev.bind (Ev.of 64 (fun k hk => impl_AddressOk_f _ k hk)) (Ev.pos ⟨m1, ⟨m4, by simp only []; omega⟩, by rw [m2]⟩ (Ev.bind s2 (Ev.bind w2 (Ev.pos (by rw [m3]) Ev.pure))))
    · have ad : Ev (fun k => impl_Address.f k s t b) (⟨#[]⟩ : ByteArray) := by
        unfold impl_Address.f
        exact Ev.bind n2 (Ev.pos d1 (Ev.bind n4 (Ev.neg d2 Ev.pure)))
      exact Ev.bind ad (Ev.bind n1 (Ev.pos d1 (Ev.bind n3 (Ev.neg d2 (Ev.pos rfl Ev.pure)))))
  · have ad : Ev (fun k => impl_Address.f k s t b) (⟨#[]⟩ : ByteArray) := by
      unfold impl_Address.f
      exact Ev.bind n2 (Ev.neg d1 Ev.pure)
    exact Ev.bind ad (Ev.bind n1 (Ev.neg d1 (Ev.pos rfl Ev.pure)))
theorem FnWordBack : laws_FnWordBack.Pure := by
  intro l _
  refine Ev.at ?_
  unfold laws_FnWordBack.f laws_big.f
  refine Ev.cons rfl ?_
  by_cases hl : (l.length : Int) > 1048576
  · exact Ev.pos (decide_eq_true hl) Ev.pure
  have hl' : l.length ≤ 1048576 := by omega
  refine Ev.neg (by simp only [decide_eq_true_eq]; exact hl) ?_
  obtain ⟨g0, e0⟩ := l1New_f l hl'
  obtain ⟨x, i1, g1, x0, x1, c0, c1, e1⟩ := l1U64_f l hl' 0 g0 (by omega) (by omega)
  have dw : Ev (fun k => spec_DrawWord32.f k l) x := by
    unfold spec_DrawWord32.f
    exact Ev.bind (Ev.of (l.length + 1) (fun k hk => e0 k (by omega))) (Ev.bind (Ev.of 9 (fun k hk => e1 k (by omega))) Ev.pure)
  have w1 : Ev (fun k => impl_Word32.f k x) (word x) := Ev.of 14 (fun k hk => impl_Word32_f x x0 x1 k (by omega))
  have r1 : Ev (fun k => impl_ReadWord32.f k (word x)) (x, true) := by
    rw [← rw32_word x x0 x1]
    exact Ev.of 60 (fun k hk => impl_ReadWord32_f _ k hk)
  obtain ⟨s, ds⟩ := DrawReadWord32_f l hl'
  have r2 : Ev (fun k => impl_ReadWord32.f k s) (rw32 s) := Ev.of 60 (fun k hk => impl_ReadWord32_f _ k hk)
  have r3 : Ev (fun k => spec_ReadWord32.f k s) (rw32 s) := Ev.of 60 (fun k hk => spec_ReadWord32_f _ k hk)
  refine Ev.bind dw (Ev.bind w1 (Ev.bind r1 (Ev.pos ⟨rfl, rfl⟩ (Ev.bind ds (Ev.bind r2 (Ev.bind r3 (Ev.pos rfl ?_)))))))
  have last := wbA_f l hl'
  by_cases hz : (rw32 s).2 = true
  · obtain ⟨z0, z1, zw⟩ := rw32_back s (rw32 s).1 (by rw [← hz])
    refine Ev.pos hz (Ev.bind (Ev.of 14 (fun k hk => impl_Word32_f _ z0 z1 k (by omega))) (Ev.pos (by rw [zw]) last))
  · exact Ev.neg hz last

end Go.Proofs.Ytklinldidfdnjaa.Pure
