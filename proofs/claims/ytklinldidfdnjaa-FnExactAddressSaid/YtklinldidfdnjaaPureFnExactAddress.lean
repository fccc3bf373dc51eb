/- The pure statement of FnExactAddress: the same bytes are summed, the same text comes of it. -/
import Derived.Test.YtklinldidfdnjaaPFnExactAddressx0
import Derived.Test.YtklinldidfdnjaaPFnExactAddressx1
import Derived.Test.YtklinldidfdnjaaPFnExactAddressx2
import Derived.Test.YtklinldidfdnjaaPFnExactAddressx3
import Derived.Laws.BitsLemmas
import Derived.Laws.Bits64b
import Derived.Lib.Bytealg
namespace Go.Proofs.Ytklinldidfdnjaa.Pure
open Go.RowKit Go.Proofs.YtklinldidfdnjaaW.PrintWords Go.Proofs.YtklinldidfdnjaaW.PrintLast Go.Proofs.YtklinldidfdnjaaW.PrintMore Go.Proofs.Ytklinldidfdnjaa.PFnExactAddress

theorem u64w (n : Int) (h0 : 0 ≤ n) (h1 : n < 18446744073709551616) : IntKind.u64.wrap n = n := by
  simp [IntKind.wrap, IntKind.signed, IntKind.bits]; omega
theorem i64w (n : Int) (h0 : -9223372036854775808 ≤ n) (h1 : n < 9223372036854775808) : IntKind.i64.wrap n = n := by
  rw [IntKind.wrap_i64]; omega
theorem w64 (n : Int) (h0 : -9223372036854775808 ≤ n) (h1 : n < 9223372036854775808) : wrap64 n = n := by unfold wrap64; omega
theorem up1 (i : Int) (h0 : 0 ≤ i) (h : i < 9223372036854775807) : wrap64 (i + 1) = i + 1 := by unfold wrap64; omega
theorem u64_lo (n : Int) : 0 ≤ IntKind.u64.wrap n := by simp [IntKind.wrap, IntKind.signed, IntKind.bits]; omega
theorem u64_hi (n : Int) : IntKind.u64.wrap n < 18446744073709551616 := by simp [IntKind.wrap, IntKind.signed, IntKind.bits]; omega
theorem u64_wf (x : Int) (h : (Lit.int .u64 x).wf = true) : 0 ≤ x ∧ x < 18446744073709551616 := by
  simp [Lit.wf, IntKind.min, IntKind.max, IntKind.signed, IntKind.bits] at h; omega
theorem and31 (x : Int) (h0 : 0 ≤ x) (h1 : x < 18446744073709551616) : Go.bits .and .u64 x 31 = x % 32 := by
  have := bits_mask .u64 64 (by decide) (fun n a b => u64w n a (by simpa using b)) 5 (by decide) x h0 (by simpa using h1)
  simpa using this
theorem or5 (a c : Int) (h0 : 0 ≤ a) (h1 : a * 32 < 18446744073709551616) (hc0 : 0 ≤ c) (hc : c < 32) : Go.bits .or .u64 (a * 32) c = a * 32 + c := by
  have := bits_join .u64 64 (by decide) (fun n x y => u64w n x (by simpa using y)) 5 (a * 32) c (by omega) (by omega) (by simpa using h1) hc0 (by simpa using hc) (by simp; omega)
  exact this
theorem bt_list (l : List UInt8) (i : Int) : bt ⟨l.toArray⟩ i = ((l.getD i.toNat 0).toNat : Int) := by
  unfold bt
  split
  · rename_i h
    have h' : i.toNat < l.length := by simpa [ByteArray.size] using h
    rw [List.getD_eq_getElem?_getD, List.getElem?_eq_getElem h']
    rfl
  · rename_i h
    have h' : l.length ≤ i.toNat := by simpa [ByteArray.size] using h
    rw [List.getD_eq_getElem?_getD, List.getElem?_eq_none h']; rfl
/-- The alphabet of chapter 1. -/
def alpha : ByteArray := ⟨#[48, 49, 50, 51, 52, 53, 54, 55, 56, 57, 97, 98, 99, 100, 102, 103, 104, 105, 106, 107, 108, 109, 110, 112, 113, 114, 115, 118, 119, 120, 121, 122]⟩
/-- The n-th digit from the right, as its byte. -/
def dg (x : Int) (n : Nat) : Int := bt alpha (x / 2 ^ (5 * n) % 32)
/-- The last n digits. -/
def ds (x : Int) : Nat → List Int
  | 0 => []
  | n + 1 => dg x n :: ds x n
theorem ds_length (x : Int) : ∀ n, (ds x n).length = n
  | 0 => rfl
  | n + 1 => by simp [ds, ds_length x n]
/-- The thirteen bytes. -/
def word (x : Int) : ByteArray := strOfNums (ds x 13)
theorem div_lo (x : Int) (h0 : 0 ≤ x) (n : Nat) : 0 ≤ x / 2 ^ n := Int.ediv_nonneg h0 (by have := Nat.two_pow_pos n; exact_mod_cast Nat.zero_le _)
theorem div_hi (x : Int) (h0 : 0 ≤ x) (n : Nat) : x / 2 ^ n ≤ x := Int.ediv_le_self _ h0
theorem shr5 (x : Int) (n : Nat) (hn : n ≤ 12) : shr .u64 x (5 * n) = x / 2 ^ (5 * n) := by
  unfold shr
  have e : (5 * (n : Int)).toNat = 5 * n := by omega
  rw [e, Nat.min_eq_left (by simp [IntKind.bits]; omega)]
/-- What a byte is worth as a digit; -1: it is none. -/
def dv (c : Int) : Int := Lib.indexByte alpha.data.toList c.toNat.toUInt8
theorem dv_all : ∀ c : Fin 256, -1 ≤ dv (c.val : Int) ∧ dv (c.val : Int) < 32 := by decide +kernel
theorem dv_bounds (c : Int) (h0 : 0 ≤ c) (h1 : c ≤ 255) : -1 ≤ dv c ∧ dv c < 32 := by
  have := dv_all ⟨c.toNat, by omega⟩
  simpa [Int.toNat_of_nonneg h0] using this
/-- The number that thirteen digits tell, from the i-th on. -/
def rwGo (s : ByteArray) : Nat → Int → Nat → Int × Bool
  | 0, x, _ => (x, true)
  | d + 1, x, i => if dv (bt s i) < 0 then (0, false) else if i = 0 ∧ dv (bt s i) > 15 then (0, false) else rwGo s d (x * 32 + dv (bt s i)) (i + 1)
def rw32 (s : ByteArray) : Int × Bool := if s.size = 13 then rwGo s 13 0 0 else (0, false)
/-- The bound that the digits so far keep. -/
def lim (d : Nat) : Int := if d = 13 then 1 else 2 ^ (64 - 5 * d)
theorem lim_all : ∀ d : Fin 13, lim d.val ≤ 18446744073709551616 ∧ 0 < lim d.val ∧ (d.val < 12 → lim (d.val + 1) * 32 = lim d.val) ∧ (d.val = 12 → lim d.val = 16) ∧ lim (d.val + 1) * 32 ≤ 18446744073709551616 := by decide +kernel
theorem word_size (x : Int) : (word x).size = 13 := by unfold word; rw [strOfNums_size, ds_length]

-- Ev
/-- With fuel enough the run answers r. -/
def Ev {α : Type} (f : Nat → Option α) (r : α) : Prop := ∃ K, ∀ k, K ≤ k → f k = some r
theorem Ev.pure {α : Type} {r : α} : Ev (fun _ => some r) r := ⟨0, fun _ _ => rfl⟩
theorem Ev.of {α : Type} {f : Nat → Option α} {r : α} (N : Nat) (h : ∀ k, N ≤ k → f k = some r) : Ev f r := ⟨N, h⟩
theorem Ev.step {α : Type} {f : Nat → Option α} {r : α} (h : Ev (fun k => f (k + 1)) r) : Ev f r := by
  obtain ⟨K, h⟩ := h
  refine ⟨K + 1, fun k hk => ?_⟩
  obtain ⟨m, rfl⟩ : ∃ m, k = m + 1 := ⟨k - 1, by omega⟩
  exact h m (by omega)
theorem Ev.bind {α β : Type} {f : Nat → Option α} {g : Nat → α → Option β} {a : α} {r : β} (h : Ev f a) (h2 : Ev (fun k => g k a) r) : Ev (fun k => (f k).bind (g k)) r := by
  obtain ⟨K, h⟩ := h
  obtain ⟨K2, h2⟩ := h2
  refine ⟨K + K2, fun k hk => ?_⟩
  show (f k).bind (g k) = some r
  rw [h k (by omega)]
  exact h2 k (by omega)
theorem Ev.cons {α β : Type} {x : Option α} {g : Nat → α → Option β} {a : α} {r : β} (h : x = some a) (h2 : Ev (fun k => g k a) r) : Ev (fun k => x.bind (g k)) r := by
  subst h
  exact h2
theorem Ev.pos {α : Type} {c : Prop} [Decidable c] {f g : Nat → Option α} {r : α} (hc : c) (h : Ev f r) : Ev (fun k => if c then f k else g k) r := by
  simpa only [if_pos hc] using h
theorem Ev.neg {α : Type} {c : Prop} [Decidable c] {f g : Nat → Option α} {r : α} (hc : ¬ c) (h : Ev g r) : Ev (fun k => if c then f k else g k) r := by
  simpa only [if_neg hc] using h
theorem Ev.at {α : Type} {f : Nat → Option α} {r : α} (h : Ev f r) : ∃ k, f k = some r := by
  obtain ⟨K, h⟩ := h
  exact ⟨K, h K (Nat.le_refl _)⟩
theorem Ev.uniq {α : Type} {f : Nat → Option α} {r s : α} (h : Ev f r) (h2 : Ev f s) : r = s := by
  obtain ⟨K, h⟩ := h
  obtain ⟨K2, h2⟩ := h2
  have a := h (K + K2) (by omega)
  have b := h2 (K + K2) (by omega)
  rw [a] at b
  exact Option.some.inj b
/-- From the end down. -/
theorem downTo (n : Nat) (P : Nat → Prop) (base : P n) (step : ∀ i, i < n → P (i + 1) → P i) : ∀ i, i ≤ n → P i := by
  intro i hi
  obtain ⟨d, rfl⟩ : ∃ d, i = n - d := ⟨n - i, by omega⟩
  clear hi
  induction d with
  | zero => exact base
  | succ d ih =>
    by_cases h : d < n
    · refine step _ (by omega) ?_
      have e : n - (d + 1) + 1 = n - d := by omega
      rw [e]; exact ih
    · have e : n - (d + 1) = n - d := by omega
      rw [e]; exact ih
theorem upN (i : Nat) (h : i < 1000000000000000) : wrap64 ((i : Int) + 1) = ((i + 1 : Nat) : Int) := by unfold wrap64; omega
theorem dnN (i : Nat) (h : i < 1000000000000000) (h0 : 0 < i) : wrap64 ((i : Int) - 1) = ((i - 1 : Nat) : Int) := by unfold wrap64; omega
/-- A loop that sets place by place leaves the row's picture. -/
theorem setLoop {A B : Type} (L : Nat → List B → Int → Option (List B)) (x : List A) (c : A → B)
    (step : ∀ (i : Nat) (y : List B) (r : List B) (h : i < x.length), y.length = x.length → Ev (fun k => L k (y.set i (c x[i])) ((i + 1 : Nat) : Int)) r → Ev (fun k => L k y (i : Int)) r)
    (stop : ∀ y : List B, y.length = x.length → Ev (fun k => L k y ((x.length : Nat) : Int)) y) :
    ∀ y : List B, y.length = x.length → Ev (fun k => L k y 0) (x.map c) := by
  have main := downTo x.length (fun i => ∀ y : List B, y.length = x.length → y.take i = (x.map c).take i → Ev (fun k => L k y (i : Int)) (x.map c)) ?_ ?_
  · intro y hy
    exact main 0 (by omega) y hy (by simp)
  · intro y hy he
    rw [List.take_of_length_le (by omega), List.take_of_length_le (by simp)] at he
    have := stop y hy
    rw [he] at this
    rw [he] at hy
    exact he ▸ stop y (by rw [he]; exact hy)
  · intro i hi ih y hy he
    refine step i y _ hi hy (ih _ (by simp [hy]) ?_)
    rw [List.take_add_one, List.take_add_one, List.take_set_of_le (by omega), he, List.getElem?_set_self (by omega)]
    simp [List.getElem?_eq_getElem hi]
theorem countLoop {α : Type} (L : Nat → Int → Option α) (n : Nat) (r : α) (step : ∀ i : Nat, i < n → Ev (fun k => L k ((i + 1 : Nat) : Int)) r → Ev (fun k => L k (i : Int)) r) (stop : Ev (fun k => L k ((n : Nat) : Int)) r) : Ev (fun k => L k 0) r :=
  downTo n (fun i => Ev (fun k => L k (i : Int)) r) stop (fun i hi h => step i hi h) 0 (by omega)

-- NameOk
def nmByte (c : Int) : Bool := (decide (97 ≤ c) && decide (c ≤ 122)) || (decide (65 ≤ c) && decide (c ≤ 90)) || (decide (48 ≤ c) && decide (c ≤ 57)) || c == 45 || c == 95 || c == 46 || c == 43
/-- Are n bytes from the i-th on those of a name? -/
def nmGo (s : ByteArray) : Nat → Nat → Bool
  | 0, _ => true
  | d + 1, i => nmByte (bt s i) && nmGo s d (i + 1)
/-- A name. -/
def nmOk (s : ByteArray) : Bool := decide (1 ≤ s.size) && decide (s.size ≤ 60) && !(bt s 0 == 46) && nmGo s s.size 0
theorem l1Letter_f (c : Int) : spec_l1Letter.f c = some ((decide (97 ≤ c) && decide (c ≤ 122)) || (decide (65 ≤ c) && decide (c ≤ 90))) := by
  unfold spec_l1Letter.f
  by_cases h1 : 97 ≤ c <;> by_cases h2 : c ≤ 122 <;> by_cases h3 : 65 ≤ c <;> by_cases h4 : c ≤ 90 <;> simp [h1, h2, h3, h4] <;> omega
theorem l1Digit_f (c : Int) : spec_l1Digit.f c = some (decide (48 ≤ c) && decide (c ≤ 57)) := by
  unfold spec_l1Digit.f
  by_cases h1 : 48 ≤ c <;> by_cases h2 : c ≤ 57 <;> simp [h1, h2]
theorem letter_f (c : Int) : impl_letter.f c = some ((decide (97 ≤ c) && decide (c ≤ 122)) || (decide (65 ≤ c) && decide (c ≤ 90))) := by
  unfold impl_letter.f
  by_cases h1 : 97 ≤ c <;> by_cases h2 : c ≤ 122 <;> by_cases h3 : 65 ≤ c <;> by_cases h4 : c ≤ 90 <;> simp [h1, h2, h3, h4] <;> omega
theorem digit_f (c : Int) : impl_digit.f c = some (decide (48 ≤ c) && decide (c ≤ 57)) := by
  unfold impl_digit.f
  by_cases h1 : 48 ≤ c <;> by_cases h2 : c ≤ 57 <;> simp [h1, h2]
theorem spec_NameOk_loop (s : ByteArray) (hs : s.size ≤ 60) : ∀ (d i k : Nat), i + d = s.size → d < k → spec_NameOk.l0 k s (i : Int) = some (nmGo s d i) := by
  intro d
  induction d with
  | zero =>
    intro i k hi hk
    obtain ⟨k, rfl⟩ : ∃ m, k = m + 1 := ⟨k - 1, by omega⟩
    simp only [spec_NameOk.l0]; rw [if_neg (by omega)]; rfl
  | succ d ih =>
    intro i k hi hk
    obtain ⟨k, rfl⟩ : ∃ m, k = m + 1 := ⟨k - 1, by omega⟩
    have e3 : wrap64 ((i : Int) + 1) = ((i + 1 : Nat) : Int) := by rw [up1 _ (by omega) (by omega)]; omega
    simp only [spec_NameOk.l0, nmGo, nmByte]
    rw [if_pos (by omega), if_pos (by omega), l1Letter_f, l1Digit_f, e3, ih (i + 1) k (by omega) (by omega)]
    simp only [Option.bind_some]
    generalize bt s (i : Int) = c
    generalize nmGo s d (i + 1) = g
    generalize ((decide (97 ≤ c) && decide (c ≤ 122)) || (decide (65 ≤ c) && decide (c ≤ 90))) = p
    generalize (decide (48 ≤ c) && decide (c ≤ 57)) = q
    cases p <;> cases q <;> simp
    by_cases h1 : c = 45
    · simp [h1]
    · by_cases h2 : c = 95
      · simp [h2]
      · by_cases h3 : c = 46
        · simp [h3]
        · by_cases h4 : c = 43
          · simp [h4]
          · simp [h1, h2, h3, h4]
theorem spec_NameOk_f (s : ByteArray) (k : Nat) (hk : 63 ≤ k) : spec_NameOk.f k s = some (nmOk s) := by
  obtain ⟨k, rfl⟩ : ∃ m, k = m + 1 := ⟨k - 1, by omega⟩
  unfold spec_NameOk.f nmOk
  simp only [spec_NameOk.j0]
  by_cases h1 : (s.size : Int) < 1
  · rw [if_pos h1]
    have : ¬ 1 ≤ s.size := by omega
    simp [this]
  · rw [if_neg h1]
    have e1 : 1 ≤ s.size := by omega
    by_cases h2 : (s.size : Int) > 60
    · rw [if_pos h2]
      have : ¬ s.size ≤ 60 := by omega
      simp [this]
    · rw [if_neg h2, if_pos (by omega)]
      have e2 : s.size ≤ 60 := by omega
      have h := spec_NameOk_loop s e2 s.size 0 k (by omega) (by omega)
      rw [show ((0 : Nat) : Int) = 0 from rfl] at h
      rw [h]
      by_cases h3 : bt s 0 = 46
      · simp [h3]
      · simp [h3, e1, e2]
theorem w32_byte (s : ByteArray) (i : Int) : wrap32 (bt s i) = bt s i := by
  have := bt_range s i
  unfold wrap32; omega
theorem impl_NameOk_loop (s : ByteArray) (hs : s.size ≤ 60) : ∀ (d i k : Nat), i + d = s.size → d < k → impl_NameOk.l0 k s (s.size : Int) (i : Int) = some (nmGo s d i) := by
  intro d
  induction d with
  | zero =>
    intro i k hi hk
    obtain ⟨k, rfl⟩ : ∃ m, k = m + 1 := ⟨k - 1, by omega⟩
    simp only [impl_NameOk.l0]; rw [if_neg (by omega)]; rfl
  | succ d ih =>
    intro i k hi hk
    obtain ⟨k, rfl⟩ : ∃ m, k = m + 1 := ⟨k - 1, by omega⟩
    have e3 : wrap64 ((i : Int) + 1) = ((i + 1 : Nat) : Int) := by rw [up1 _ (by omega) (by omega)]; omega
    have hb := bt_range s (i : Int)
    have e4 : strings_ContainsRune.f (⟨#[45, 95, 46, 43]⟩ : ByteArray) (bt s (i : Int)) = some (bt s (i : Int) == 45 || bt s (i : Int) == 95 || bt s (i : Int) == 46 || bt s (i : Int) == 43) := by
      unfold strings_ContainsRune.f
      rw [if_pos (by rw [Lib.toList_data]), if_pos (by omega)]
    simp only [impl_NameOk.l0, nmGo, nmByte]
    rw [if_pos (by omega), if_pos (by omega), if_pos (by omega), letter_f, digit_f, w32_byte, e4, e3, ih (i + 1) k (by omega) (by omega)]
    simp only [Option.bind_some]
    generalize bt s (i : Int) = c
    generalize nmGo s d (i + 1) = g
    generalize ((decide (97 ≤ c) && decide (c ≤ 122)) || (decide (65 ≤ c) && decide (c ≤ 90))) = p
    generalize (decide (48 ≤ c) && decide (c ≤ 57)) = q
    generalize (c == 45) = r1
    generalize (c == 95) = r2
    generalize (c == 46) = r3
    generalize (c == 43) = r4
    cases p <;> cases q <;> cases r1 <;> cases r2 <;> cases r3 <;> cases r4 <;> simp
theorem impl_NameOk_f (s : ByteArray) (k : Nat) (hk : 63 ≤ k) : impl_NameOk.f k s = some (nmOk s) := by
  obtain ⟨k, rfl⟩ : ∃ m, k = m + 1 := ⟨k - 1, by omega⟩
  unfold impl_NameOk.f nmOk
  simp only [impl_NameOk.j0]
  by_cases h1 : (s.size : Int) < 1
  · rw [if_pos h1]
    have : ¬ 1 ≤ s.size := by omega
    simp [this]
  · rw [if_neg h1]
    have e1 : 1 ≤ s.size := by omega
    by_cases h2 : (s.size : Int) > 60
    · rw [if_pos h2]
      have : ¬ s.size ≤ 60 := by omega
      simp [this]
    · rw [if_neg h2, if_pos (by omega)]
      have e2 : s.size ≤ 60 := by omega
      have h := impl_NameOk_loop s e2 s.size 0 k (by omega) (by omega)
      rw [show ((0 : Nat) : Int) = 0 from rfl] at h
      rw [h]
      by_cases h3 : bt s 0 = 46
      · simp [h3]
      · simp [h3, e1, e2]

-- Word32
theorem spec_Word32_loop (x : Int) (h0 : 0 ≤ x) (h1 : x < 18446744073709551616) : ∀ (n : Nat) (k : Nat) (acc : List Int), n ≤ 13 → acc.length + n ≤ 13 → n < k →
    spec_Word32.l0 k x acc ((n : Int) - 1) = some (strOfNums (acc ++ ds x n)) := by
  intro n
  induction n with
  | zero =>
    intro k acc _ _ hk
    obtain ⟨k, rfl⟩ : ∃ m, k = m + 1 := ⟨k - 1, by omega⟩
    simp only [spec_Word32.l0]
    rw [if_neg (by omega)]
    simp [ds]
  | succ n ih =>
    intro k acc hn ha hk
    obtain ⟨k, rfl⟩ : ∃ m, k = m + 1 := ⟨k - 1, by omega⟩
    have e0 : (((n + 1 : Nat) : Int) - 1) = (n : Int) := by omega
    have e1 : IntKind.u64.wrap (wrap64 (5 * (n : Int))) = 5 * (n : Int) := by rw [w64 _ (by omega) (by omega), u64w _ (by omega) (by omega)]
    have d0 := div_lo x h0 (5 * n)
    have d1 := div_hi x h0 (5 * n)
    have e2 : Go.bits .and .u64 (shr .u64 x (5 * (n : Int))) 31 = x / 2 ^ (5 * n) % 32 := by rw [shr5 x n (by omega), and31 _ d0 (by omega)]
    rw [e0]
    simp only [spec_Word32.l0]
    rw [if_pos (by omega), e1, e2, if_pos (by omega), if_pos (by omega), if_pos (by omega), if_pos (by omega), w64 _ (by omega) (by omega)]
    rw [ih k _ (by omega) (by simp; omega) (by omega)]
    simp [ds, dg, alpha]
theorem spec_Word32_f (x : Int) (h0 : 0 ≤ x) (h1 : x < 18446744073709551616) (k : Nat) (hk : 13 < k) : spec_Word32.f k x = some (word x) := by
  have := spec_Word32_loop x h0 h1 13 k [] (by omega) (by simp) (by omega)
  exact this
theorem impl_Word32_loop (x : Int) (h0 : 0 ≤ x) (h1 : x < 18446744073709551616) : ∀ (d n : Nat) (k : Nat) (b : List Int), n + d = 13 → b.length = 13 → d < k → b.drop (13 - n) = ds x n →
    impl_Word32.l0 k x b 13 (n : Int) = some (word x) := by
  intro d
  induction d with
  | zero =>
    intro n k b hn hb hk hd
    obtain ⟨k, rfl⟩ : ∃ m, k = m + 1 := ⟨k - 1, by omega⟩
    obtain rfl : n = 13 := by omega
    simp only [impl_Word32.l0]
    rw [if_neg (by omega)]
    simp at hd
    rw [hd]; rfl
  | succ d ih =>
    intro n k b hn hb hk hd
    obtain ⟨k, rfl⟩ : ∃ m, k = m + 1 := ⟨k - 1, by omega⟩
    have e1 : wrap64 (5 * (n : Int)) = 5 * (n : Int) := by rw [w64 _ (by omega) (by omega)]
    have d0 := div_lo x h0 (5 * n)
    have d1 := div_hi x h0 (5 * n)
    have e2 : Go.bits .and .u64 (shr .u64 x (5 * (n : Int))) 31 = x / 2 ^ (5 * n) % 32 := by rw [shr5 x n (by omega), and31 _ d0 (by omega)]
    simp only [impl_Word32.l0]
    rw [if_pos (by omega), e1, e2, if_pos (by omega), if_pos (by omega), if_pos (by omega), w64 (12 - (n : Int)) (by omega) (by omega), if_pos (by omega), if_pos (by omega), up1 _ (by omega) (by omega)]
    have e3 : ((n : Int) + 1) = ((n + 1 : Nat) : Int) := by omega
    rw [e3]
    refine ih (n + 1) k _ (by omega) (by simp [hb]) (by omega) ?_
    have e4 : (12 - (n : Int)).toNat = 12 - n := by omega
    have e5 : 13 - (n + 1) = 12 - n := by omega
    rw [e4, e5, List.drop_set, if_neg (by omega), Nat.sub_self, List.drop_eq_getElem_cons (by omega)]
    have e6 : 12 - n + 1 = 13 - n := by omega
    simp only [List.set_cons_zero, e6, hd, ds, dg, alpha]
theorem impl_Word32_f (x : Int) (h0 : 0 ≤ x) (h1 : x < 18446744073709551616) (k : Nat) (hk : 13 < k) : impl_Word32.f k x = some (word x) := by
  unfold impl_Word32.f
  rw [if_pos (by decide)]
  simp only [Option.bind_some]
  exact impl_Word32_loop x h0 h1 13 0 k _ (by omega) (by simp) (by omega) (by simp [ds])

-- Sum
theorem sum_tail (h : Int) : ∃ r, (0 ≤ r ∧ r < 18446744073709551616) ∧ ∀ k, spec_Sum.l1 (k + 4) h 0 = some r ∧ impl_Sum.l1 (k + 4) h 0 = some r := by
  have w1 : wrap64 (0 + 1) = 1 := by unfold wrap64; omega
  have w2 : wrap64 (1 + 1) = 2 := by unfold wrap64; omega
  have w3 : wrap64 (2 + 1) = 3 := by unfold wrap64; omega
  simp only [spec_Sum.l1, impl_Sum.l1, w1, w2, w3]
  exact ⟨_, ⟨u64_lo _, u64_hi _⟩, fun k => ⟨rfl, rfl⟩⟩

theorem sum_both (x : List Int) (hx : x.length ≤ 140737488355328) (d : Nat) : ∀ (k : Nat) (h i : Int), 0 ≤ i → i ≤ x.length → (x.length : Int) - i = d → d + 5 < k →
    ∃ r, (0 ≤ r ∧ r < 18446744073709551616) ∧ spec_Sum.l0 k x h i = some r ∧ impl_Sum.l0 k h x (x.length : Int) i = some r := by
  induction d with
  | zero =>
    intro k h i h0 h1 hd hk
    obtain ⟨k, rfl⟩ : ∃ m, k = m + 1 := ⟨k - 1, by omega⟩
    obtain ⟨k, rfl⟩ : ∃ m, k = m + 4 := ⟨k - 4, by omega⟩
    obtain ⟨r, hb, hr⟩ := sum_tail h
    refine ⟨r, hb, ?_, ?_⟩
    · simp only [spec_Sum.l0]; rw [if_neg (by omega)]; exact (hr k).1
    · simp only [impl_Sum.l0]; rw [if_neg (by omega)]; exact (hr k).2
  | succ d ih =>
    intro k h i h0 h1 hd hk
    obtain ⟨k, rfl⟩ : ∃ m, k = m + 1 := ⟨k - 1, by omega⟩
    have e1 : spec_Sum.l0 (k + 1) x h i = spec_Sum.l0 k x (IntKind.u64.wrap ((Go.bits .xor .u64 h (IntKind.u64.wrap (rd x i))) * 1099511628211)) (i + 1) := by
      simp only [spec_Sum.l0]; rw [if_pos (by omega), if_pos h0, up1 i h0 (by omega)]
    have e2 : impl_Sum.l0 (k + 1) h x (x.length : Int) i = impl_Sum.l0 k (IntKind.u64.wrap ((Go.bits .xor .u64 h (IntKind.u64.wrap (rd x i))) * 1099511628211)) x (x.length : Int) (i + 1) := by
      simp only [impl_Sum.l0]; rw [if_pos (by omega), if_pos h0, if_pos (by omega), up1 i h0 (by omega)]
    rw [e1, e2]
    exact ih k _ _ (by omega) (by omega) (by omega) (by omega)

theorem Sum_f (x : List Int) (hx : x.length ≤ 140737488355328) : ∃ r, 0 ≤ r ∧ r < 18446744073709551616 ∧ ∀ k, x.length + 6 ≤ k → spec_Sum.f k x = some r ∧ impl_Sum.f k x = some r := by
  obtain ⟨r, hb, h1, h2⟩ := sum_both x hx x.length (x.length + 6) 14695981039346656037 0 (by omega) (by omega) (by omega) (by omega)
  have h1' : spec_Sum.f (x.length + 6) x = some r := h1
  have h2' : impl_Sum.f (x.length + 6) x = some r := h2
  exact ⟨r, hb.1, hb.2, fun k hk => ⟨at_rounds (g := fun k => spec_Sum.f k x) (fun k => spec_Sum.mono x k) hk h1', at_rounds (g := fun k => impl_Sum.f k x) (fun k => impl_Sum.mono x k) hk h2'⟩⟩

-- toByteS
theorem toByteS_loop (x : List Int) (hx : x.length ≤ 140737488355328) (d : Nat) : ∀ (k : Nat) (y : List Int) (i : Int), y.length = x.length → 0 ≤ i → i ≤ x.length → (x.length : Int) - i = d → d < k → y.take i.toNat = x.take i.toNat →
    laws_toByteS.l0 k x y i = some x := by
  induction d with
  | zero =>
    intro k y i hy h0 h1 hd hk he
    obtain ⟨k, rfl⟩ : ∃ m, k = m + 1 := ⟨k - 1, by omega⟩
    simp only [laws_toByteS.l0]
    rw [if_neg (by omega)]
    rw [List.take_of_length_le (by omega), List.take_of_length_le (by omega)] at he
    rw [he]
  | succ d ih =>
    intro k y i hy h0 h1 hd hk he
    obtain ⟨k, rfl⟩ : ∃ m, k = m + 1 := ⟨k - 1, by omega⟩
    simp only [laws_toByteS.l0]
    rw [if_pos (by omega), if_pos h0, if_pos (by omega), up1 i h0 (by omega)]
    refine ih k _ _ (by simp [hy]) (by omega) (by omega) (by omega) (by omega) ?_
    have e1 : (i + 1).toNat = i.toNat + 1 := by omega
    rw [e1, List.take_add_one, List.take_add_one, List.take_set_of_le (by omega), he, List.getElem?_set_self (by omega)]
    unfold rd
    rw [List.getElem?_eq_getElem (show i.toNat < x.length by omega)]
    simp [List.getD_eq_getElem?_getD, List.getElem?_eq_getElem (show i.toNat < x.length by omega)]
theorem toByteS_f (x : List Int) (hx : x.length ≤ 140737488355328) (k : Nat) (hk : x.length < k) : laws_toByteS.f k x = some x := by
  unfold laws_toByteS.f
  rw [if_pos (by omega), if_pos (by omega)]
  exact toByteS_loop x hx x.length k _ 0 (by simp) (by omega) (by omega) (by omega) hk (by simp)

-- eqByteS
theorem eqByteS_loop (x : List Int) (hx : x.length ≤ 140737488355328) (d : Nat) : ∀ (k : Nat) (i : Int), 0 ≤ i → i ≤ x.length → (x.length : Int) - i = d → d < k → laws_eqByteS.l0 k x x i = some true := by
  induction d with
  | zero =>
    intro k i h0 h1 hd hk
    obtain ⟨k, rfl⟩ : ∃ m, k = m + 1 := ⟨k - 1, by omega⟩
    simp only [laws_eqByteS.l0]
    rw [if_neg (by omega)]
  | succ d ih =>
    intro k i h0 h1 hd hk
    obtain ⟨k, rfl⟩ : ∃ m, k = m + 1 := ⟨k - 1, by omega⟩
    simp only [laws_eqByteS.l0]
    rw [if_pos (by omega), if_pos h0, if_pos (by omega), up1 i h0 (by omega)]
    simp only [if_true]
    exact ih k _ (by omega) (by omega) (by omega) (by omega)
theorem eqByteS_f (x : List Int) (hx : x.length ≤ 140737488355328) (k : Nat) (hk : x.length < k) : laws_eqByteS.f k x x = some true := by
  unfold laws_eqByteS.f
  rw [if_pos rfl]
  exact eqByteS_loop x hx x.length k 0 (by omega) (by omega) (by omega) hk

theorem u8_wf (x : Int) (h : (Lit.int .u8 x).wf = true) : 0 ≤ x ∧ x < 256 := by
  simp [Lit.wf, IntKind.min, IntKind.max, IntKind.signed, IntKind.bits] at h; omega
theorem bytesL_append (s t : ByteArray) : bytesL (s ++ t) = bytesL s ++ bytesL t := by
  unfold bytesL
  rw [ByteArray.data_append, Array.toList_append, List.map_append]
theorem bytesL_nums (l : List Int) (h : ∀ x ∈ l, (Lit.int .u8 x).wf = true) : bytesL (strOfNums l) = l := by
  unfold bytesL
  rw [strOfNums_data, List.map_map]
  conv => rhs; rw [← List.map_id l]
  refine List.map_congr_left fun x hx => ?_
  obtain ⟨h0, h1⟩ := u8_wf x (h x hx)
  simp only [Function.comp, id]
  rw [UInt8.toNat_ofNat']
  omega
theorem FnExactAddress : laws_FnExactAddress.Pure := by
  intro s t l _ _ _ _ wl
  refine Ev.at ?_
  unfold laws_FnExactAddress.f
  by_cases c1 : (s.size : Int) > 1048576
  · exact Ev.pos c1 Ev.pure
  by_cases c2 : (t.size : Int) > 1048576
  · exact Ev.neg c1 (Ev.pos c2 Ev.pure)
  by_cases c3 : (l.length : Int) > 1048576
  · exact Ev.neg c1 (Ev.neg c2 (Ev.pos c3 Ev.pure))
  refine Ev.neg c1 (Ev.neg c2 (Ev.neg c3 ?_))
  have hb : Ev (fun k => laws_toByteS.f k l) l := Ev.of (l.length + 1) (fun k hk => toByteS_f l (by omega) k (by omega))
  have he : Ev (fun k => laws_eqByteS.f k l l) true := Ev.of (l.length + 1) (fun k hk => eqByteS_f l (by omega) k (by omega))
  have main : ∃ r, Ev (fun k => spec_Address.f k s t l) r ∧ Ev (fun k => impl_Address.f k s t l) r := by
    unfold spec_Address.f impl_Address.f
    have n1 : Ev (fun k => spec_NameOk.f k s) (nmOk s) := Ev.of 63 (fun k hk => spec_NameOk_f s k hk)
    have n2 : Ev (fun k => impl_NameOk.f k s) (nmOk s) := Ev.of 63 (fun k hk => impl_NameOk_f s k hk)
    have n3 : Ev (fun k => spec_NameOk.f k t) (nmOk t) := Ev.of 63 (fun k hk => spec_NameOk_f t k hk)
    have n4 : Ev (fun k => impl_NameOk.f k t) (nmOk t) := Ev.of 63 (fun k hk => impl_NameOk_f t k hk)
    by_cases d1 : nmOk s = true
    · by_cases d2 : nmOk t = true
      · have e : bytesL ((((s ++ (⟨#[58]⟩ : ByteArray)) ++ t) ++ (⟨#[58]⟩ : ByteArray)) ++ strOfNums l) = bytesL (((s ++ (⟨#[58]⟩ : ByteArray)) ++ t) ++ (⟨#[58]⟩ : ByteArray)) ++ l := by
          rw [bytesL_append _ (strOfNums l), bytesL_nums l wl]
        have hlen : (bytesL (((s ++ (⟨#[58]⟩ : ByteArray)) ++ t) ++ (⟨#[58]⟩ : ByteArray)) ++ l).length ≤ 140737488355328 := by
          rw [List.length_append, bytesL_length]
          simp only [ByteArray.size_append, ByteArray.size_mk', List.size_toArray, List.length_cons, List.length_nil]
          omega
        obtain ⟨h, h0, h1, hh⟩ := Sum_f _ hlen
        have s1 : Ev (fun k => spec_Sum.f k (bytesL (((s ++ (⟨#[58]⟩ : ByteArray)) ++ t) ++ (⟨#[58]⟩ : ByteArray)) ++ l)) h := Ev.of _ (fun k hk => (hh k hk).1)
        have s2 : Ev (fun k => impl_Sum.f k (bytesL (((s ++ (⟨#[58]⟩ : ByteArray)) ++ t) ++ (⟨#[58]⟩ : ByteArray)) ++ l)) h := Ev.of _ (fun k hk => (hh k hk).2)
        have w1 : Ev (fun k => spec_Word32.f k h) (word h) := Ev.of 14 (fun k hk => spec_Word32_f h h0 h1 k (by omega))
        have w2 : Ev (fun k => impl_Word32.f k h) (word h) := Ev.of 14 (fun k hk => impl_Word32_f h h0 h1 k (by omega))
        have ws : (word h).size ≤ 100 := by rw [word_size]; omega
        refine ⟨(word h ++ (⟨#[45]⟩ : ByteArray)) ++ t, Ev.bind n1 (Ev.pos d1 (Ev.bind n3 (Ev.pos d2 (Ev.bind ?_ Ev.pure)))), Ev.bind n2 (Ev.pos d1 (Ev.bind n4 (Ev.pos d2 (Ev.pos (by omega) ?_))))⟩
        · unfold spec_l1Address.f
          exact Ev.pos (by omega) (Ev.bind s1 (Ev.bind w1 (Ev.pos ws Ev.pure)))
        · rw [e]
          exact Ev.bind s2 (Ev.bind w2 (Ev.pos ws Ev.pure))
      · exact ⟨_, Ev.bind n1 (Ev.pos d1 (Ev.bind n3 (Ev.neg d2 Ev.pure))), Ev.bind n2 (Ev.pos d1 (Ev.bind n4 (Ev.neg d2 Ev.pure)))⟩
    · exact ⟨_, Ev.bind n1 (Ev.neg d1 Ev.pure), Ev.bind n2 (Ev.neg d1 Ev.pure)⟩
  obtain ⟨r, m1, m2⟩ := main
  exact Ev.bind hb (Ev.bind m1 (Ev.bind hb (Ev.bind m2 (Ev.pos rfl (Ev.bind hb (Ev.bind he (Ev.pos rfl Ev.pure)))))))

end Go.Proofs.Ytklinldidfdnjaa.Pure
