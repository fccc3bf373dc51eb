/- The pure statement of FnFailing: what fails with broken units is closed, and more broken ones never fail fewer. -/
import Derived.Test.YtnahkojlamficaaPFnFailingx0
import Derived.Test.YtnahkojlamficaaPFnFailingx1
import Derived.Test.YtnahkojlamficaaPFnFailingx10
import Derived.Test.YtnahkojlamficaaPFnFailingx11
import Derived.Test.YtnahkojlamficaaPFnFailingx12
import Derived.Test.YtnahkojlamficaaPFnFailingx2
import Derived.Test.YtnahkojlamficaaPFnFailingx3
import Derived.Test.YtnahkojlamficaaPFnFailingx4
import Derived.Test.YtnahkojlamficaaPFnFailingx5
import Derived.Test.YtnahkojlamficaaPFnFailingx6
import Derived.Test.YtnahkojlamficaaPFnFailingx7
import Derived.Test.YtnahkojlamficaaPFnFailingx8
import Derived.Test.YtnahkojlamficaaPFnFailingx9
import Derived.Laws.BitsLemmas
import Derived.Laws.Bits64b
import Derived.Lib.Bytealg
namespace Go.Proofs.Ytnahkojlamficaa.Pure
open Go.RowKit Go.Proofs.YtnahkojlamficaaW.PrintWords Go.Proofs.YtnahkojlamficaaW.PrintLast Go.Proofs.YtnahkojlamficaaW.PrintMore Go.Proofs.Ytnahkojlamficaa.PFnFailing

theorem u64w (n : Int) (h0 : 0 ≤ n) (h1 : n < 18446744073709551616) : IntKind.u64.wrap n = n := by
  simp [IntKind.wrap, IntKind.signed, IntKind.bits]; omega
theorem i64w (n : Int) (h0 : -9223372036854775808 ≤ n) (h1 : n < 9223372036854775808) : IntKind.i64.wrap n = n := by
  rw [IntKind.wrap_i64]; omega
theorem w64 (n : Int) (h0 : -9223372036854775808 ≤ n) (h1 : n < 9223372036854775808) : wrap64 n = n := by unfold wrap64; omega
theorem up1 (i : Int) (h0 : 0 ≤ i) (h : i < 9223372036854775807) : wrap64 (i + 1) = i + 1 := by unfold wrap64; omega
theorem u64_lo (n : Int) : 0 ≤ IntKind.u64.wrap n := by simp [IntKind.wrap, IntKind.signed, IntKind.bits]; omega
theorem u64_hi (n : Int) : IntKind.u64.wrap n < 18446744073709551616 := by simp [IntKind.wrap, IntKind.signed, IntKind.bits]; omega
theorem u64_wf (x : Int) (h : (Lit.int .u64 x).wf = true) : 0 ≤ x ∧ x < 18446744073709551616 := by
  simp [Lit.wf, IntKind.min, IntKind.max, IntKind.signed, IntKind.bits] at h; omega
theorem and31 (x : Int) (h0 : 0 ≤ x) (h1 : x < 18446744073709551616) : Go.bits .and .u64 x 31 = x % 32 := by
  have := bits_mask .u64 64 (by decide) (fun n a b => u64w n a (by simpa using b)) 5 (by decide) x h0 (by simpa using h1)
  simpa using this
theorem or5 (a c : Int) (h0 : 0 ≤ a) (h1 : a * 32 < 18446744073709551616) (hc0 : 0 ≤ c) (hc : c < 32) : Go.bits .or .u64 (a * 32) c = a * 32 + c := by
  have := bits_join .u64 64 (by decide) (fun n x y => u64w n x (by simpa using y)) 5 (a * 32) c (by omega) (by omega) (by simpa using h1) hc0 (by simpa using hc) (by simp; omega)
  exact this
theorem bt_list (l : List UInt8) (i : Int) : bt ⟨l.toArray⟩ i = ((l.getD i.toNat 0).toNat : Int) := by
  unfold bt
  split
  · rename_i h
    have h' : i.toNat < l.length := by simpa [ByteArray.size] using h
    rw [List.getD_eq_getElem?_getD, List.getElem?_eq_getElem h']
    rfl
  · rename_i h
    have h' : l.length ≤ i.toNat := by simpa [ByteArray.size] using h
    rw [List.getD_eq_getElem?_getD, List.getElem?_eq_none h']; rfl
/-- The alphabet of chapter 1. -/
def alpha : ByteArray := ⟨#[48, 49, 50, 51, 52, 53, 54, 55, 56, 57, 97, 98, 99, 100, 102, 103, 104, 105, 106, 107, 108, 109, 110, 112, 113, 114, 115, 118, 119, 120, 121, 122]⟩
/-- The n-th digit from the right, as its byte. -/
def dg (x : Int) (n : Nat) : Int := bt alpha (x / 2 ^ (5 * n) % 32)
/-- The last n digits. -/
def ds (x : Int) : Nat → List Int
  | 0 => []
  | n + 1 => dg x n :: ds x n
theorem ds_length (x : Int) : ∀ n, (ds x n).length = n
  | 0 => rfl
  | n + 1 => by simp [ds, ds_length x n]
/-- The thirteen bytes. -/
def word (x : Int) : ByteArray := strOfNums (ds x 13)
theorem div_lo (x : Int) (h0 : 0 ≤ x) (n : Nat) : 0 ≤ x / 2 ^ n := Int.ediv_nonneg h0 (by have := Nat.two_pow_pos n; exact_mod_cast Nat.zero_le _)
theorem div_hi (x : Int) (h0 : 0 ≤ x) (n : Nat) : x / 2 ^ n ≤ x := Int.ediv_le_self _ h0
theorem shr5 (x : Int) (n : Nat) (hn : n ≤ 12) : shr .u64 x (5 * n) = x / 2 ^ (5 * n) := by
  unfold shr
  have e : (5 * (n : Int)).toNat = 5 * n := by omega
  rw [e, Nat.min_eq_left (by simp [IntKind.bits]; omega)]
/-- What a byte is worth as a digit; -1: it is none. -/
def dv (c : Int) : Int := Lib.indexByte alpha.data.toList c.toNat.toUInt8
theorem dv_all : ∀ c : Fin 256, -1 ≤ dv (c.val : Int) ∧ dv (c.val : Int) < 32 := by decide +kernel
theorem dv_bounds (c : Int) (h0 : 0 ≤ c) (h1 : c ≤ 255) : -1 ≤ dv c ∧ dv c < 32 := by
  have := dv_all ⟨c.toNat, by omega⟩
  simpa [Int.toNat_of_nonneg h0] using this
/-- The number that thirteen digits tell, from the i-th on. -/
def rwGo (s : ByteArray) : Nat → Int → Nat → Int × Bool
  | 0, x, _ => (x, true)
  | d + 1, x, i => if dv (bt s i) < 0 then (0, false) else if i = 0 ∧ dv (bt s i) > 15 then (0, false) else rwGo s d (x * 32 + dv (bt s i)) (i + 1)
def rw32 (s : ByteArray) : Int × Bool := if s.size = 13 then rwGo s 13 0 0 else (0, false)
/-- The bound that the digits so far keep. -/
def lim (d : Nat) : Int := if d = 13 then 1 else 2 ^ (64 - 5 * d)
theorem lim_all : ∀ d : Fin 13, lim d.val ≤ 18446744073709551616 ∧ 0 < lim d.val ∧ (d.val < 12 → lim (d.val + 1) * 32 = lim d.val) ∧ (d.val = 12 → lim d.val = 16) ∧ lim (d.val + 1) * 32 ≤ 18446744073709551616 := by decide +kernel
theorem word_size (x : Int) : (word x).size = 13 := by unfold word; rw [strOfNums_size, ds_length]

-- Ev
/-- With fuel enough the run answers r. -/
def Ev {α : Type} (f : Nat → Option α) (r : α) : Prop := ∃ K, ∀ k, K ≤ k → f k = some r
theorem Ev.pure {α : Type} {r : α} : Ev (fun _ => some r) r := ⟨0, fun _ _ => rfl⟩
theorem Ev.of {α : Type} {f : Nat → Option α} {r : α} (N : Nat) (h : ∀ k, N ≤ k → f k = some r) : Ev f r := ⟨N, h⟩
theorem Ev.step {α : Type} {f : Nat → Option α} {r : α} (h : Ev (fun k => f (k + 1)) r) : Ev f r := by
  obtain ⟨K, h⟩ := h
  refine ⟨K + 1, fun k hk => ?_⟩
  obtain ⟨m, rfl⟩ : ∃ m, k = m + 1 := ⟨k - 1, by omega⟩
  exact h m (by omega)
theorem Ev.bind {α β : Type} {f : Nat → Option α} {g : Nat → α → Option β} {a : α} {r : β} (h : Ev f a) (h2 : Ev (fun k => g k a) r) : Ev (fun k => (f k).bind (g k)) r := by
  obtain ⟨K, h⟩ := h
  obtain ⟨K2, h2⟩ := h2
  refine ⟨K + K2, fun k hk => ?_⟩
  show (f k).bind (g k) = some r
  rw [h k (by omega)]
  exact h2 k (by omega)
theorem Ev.cons {α β : Type} {x : Option α} {g : Nat → α → Option β} {a : α} {r : β} (h : x = some a) (h2 : Ev (fun k => g k a) r) : Ev (fun k => x.bind (g k)) r := by
  subst h
  exact h2
theorem Ev.pos {α : Type} {c : Prop} [Decidable c] {f g : Nat → Option α} {r : α} (hc : c) (h : Ev f r) : Ev (fun k => if c then f k else g k) r := by
  simpa only [if_pos hc] using h
theorem Ev.neg {α : Type} {c : Prop} [Decidable c] {f g : Nat → Option α} {r : α} (hc : ¬ c) (h : Ev g r) : Ev (fun k => if c then f k else g k) r := by
  simpa only [if_neg hc] using h
theorem Ev.at {α : Type} {f : Nat → Option α} {r : α} (h : Ev f r) : ∃ k, f k = some r := by
  obtain ⟨K, h⟩ := h
  exact ⟨K, h K (Nat.le_refl _)⟩
theorem Ev.uniq {α : Type} {f : Nat → Option α} {r s : α} (h : Ev f r) (h2 : Ev f s) : r = s := by
  obtain ⟨K, h⟩ := h
  obtain ⟨K2, h2⟩ := h2
  have a := h (K + K2) (by omega)
  have b := h2 (K + K2) (by omega)
  rw [a] at b
  exact Option.some.inj b
/-- From the end down. -/
theorem downTo (n : Nat) (P : Nat → Prop) (base : P n) (step : ∀ i, i < n → P (i + 1) → P i) : ∀ i, i ≤ n → P i := by
  intro i hi
  obtain ⟨d, rfl⟩ : ∃ d, i = n - d := ⟨n - i, by omega⟩
  clear hi
  induction d with
  | zero => exact base
  | succ d ih =>
    by_cases h : d < n
    · refine step _ (by omega) ?_
      have e : n - (d + 1) + 1 = n - d := by omega
      rw [e]; exact ih
    · have e : n - (d + 1) = n - d := by omega
      rw [e]; exact ih
theorem upN (i : Nat) (h : i < 1000000000000000) : wrap64 ((i : Int) + 1) = ((i + 1 : Nat) : Int) := by unfold wrap64; omega
theorem dnN (i : Nat) (h : i < 1000000000000000) (h0 : 0 < i) : wrap64 ((i : Int) - 1) = ((i - 1 : Nat) : Int) := by unfold wrap64; omega
/-- A loop that sets place by place leaves the row's picture. -/
theorem setLoop {A B : Type} (L : Nat → List B → Int → Option (List B)) (x : List A) (c : A → B)
    (step : ∀ (i : Nat) (y : List B) (r : List B) (h : i < x.length), y.length = x.length → Ev (fun k => L k (y.set i (c x[i])) ((i + 1 : Nat) : Int)) r → Ev (fun k => L k y (i : Int)) r)
    (stop : ∀ y : List B, y.length = x.length → Ev (fun k => L k y ((x.length : Nat) : Int)) y) :
    ∀ y : List B, y.length = x.length → Ev (fun k => L k y 0) (x.map c) := by
  have main := downTo x.length (fun i => ∀ y : List B, y.length = x.length → y.take i = (x.map c).take i → Ev (fun k => L k y (i : Int)) (x.map c)) ?_ ?_
  · intro y hy
    exact main 0 (by omega) y hy (by simp)
  · intro y hy he
    rw [List.take_of_length_le (by omega), List.take_of_length_le (by simp)] at he
    have := stop y hy
    rw [he] at this
    rw [he] at hy
    exact he ▸ stop y (by rw [he]; exact hy)
  · intro i hi ih y hy he
    refine step i y _ hi hy (ih _ (by simp [hy]) ?_)
    rw [List.take_add_one, List.take_add_one, List.take_set_of_le (by omega), he, List.getElem?_set_self (by omega)]
    simp [List.getElem?_eq_getElem hi]
theorem countLoop {α : Type} (L : Nat → Int → Option α) (n : Nat) (r : α) (step : ∀ i : Nat, i < n → Ev (fun k => L k ((i + 1 : Nat) : Int)) r → Ev (fun k => L k (i : Int)) r) (stop : Ev (fun k => L k ((n : Nat) : Int)) r) : Ev (fun k => L k 0) r :=
  downTo n (fun i => Ev (fun k => L k (i : Int)) r) stop (fun i hi h => step i hi h) 0 (by omega)

-- RdS
theorem rdStr (l : List ByteArray) (i : Nat) (h : i < l.length) : rdOf ByteArray.empty l (i : Int) = l[i] := by unfold rdOf; simp [List.getD_eq_getElem?_getD, List.getElem?_eq_getElem h]

-- NameOk
def nmByte (c : Int) : Bool := (decide (97 ≤ c) && decide (c ≤ 122)) || (decide (65 ≤ c) && decide (c ≤ 90)) || (decide (48 ≤ c) && decide (c ≤ 57)) || c == 45 || c == 95 || c == 46 || c == 43
/-- Are n bytes from the i-th on those of a name? -/
def nmGo (s : ByteArray) : Nat → Nat → Bool
  | 0, _ => true
  | d + 1, i => nmByte (bt s i) && nmGo s d (i + 1)
/-- A name. -/
def nmOk (s : ByteArray) : Bool := decide (1 ≤ s.size) && decide (s.size ≤ 60) && !(bt s 0 == 46) && nmGo s s.size 0
theorem l1Letter_f (c : Int) : spec_l1Letter.f c = some ((decide (97 ≤ c) && decide (c ≤ 122)) || (decide (65 ≤ c) && decide (c ≤ 90))) := by
  unfold spec_l1Letter.f
  by_cases h1 : 97 ≤ c <;> by_cases h2 : c ≤ 122 <;> by_cases h3 : 65 ≤ c <;> by_cases h4 : c ≤ 90 <;> simp [h1, h2, h3, h4] <;> omega
theorem l1Digit_f (c : Int) : spec_l1Digit.f c = some (decide (48 ≤ c) && decide (c ≤ 57)) := by
  unfold spec_l1Digit.f
  by_cases h1 : 48 ≤ c <;> by_cases h2 : c ≤ 57 <;> simp [h1, h2]
theorem letter_f (c : Int) : impl_letter.f c = some ((decide (97 ≤ c) && decide (c ≤ 122)) || (decide (65 ≤ c) && decide (c ≤ 90))) := by
  unfold impl_letter.f
  by_cases h1 : 97 ≤ c <;> by_cases h2 : c ≤ 122 <;> by_cases h3 : 65 ≤ c <;> by_cases h4 : c ≤ 90 <;> simp [h1, h2, h3, h4] <;> omega
theorem digit_f (c : Int) : impl_digit.f c = some (decide (48 ≤ c) && decide (c ≤ 57)) := by
  unfold impl_digit.f
  by_cases h1 : 48 ≤ c <;> by_cases h2 : c ≤ 57 <;> simp [h1, h2]
theorem spec_NameOk_loop (s : ByteArray) (hs : s.size ≤ 60) : ∀ (d i k : Nat), i + d = s.size → d < k → spec_NameOk.l0 k s (i : Int) = some (nmGo s d i) := by
  intro d
  induction d with
  | zero =>
    intro i k hi hk
    obtain ⟨k, rfl⟩ : ∃ m, k = m + 1 := ⟨k - 1, by omega⟩
    simp only [spec_NameOk.l0]; rw [if_neg (by omega)]; rfl
  | succ d ih =>
    intro i k hi hk
    obtain ⟨k, rfl⟩ : ∃ m, k = m + 1 := ⟨k - 1, by omega⟩
    have e3 : wrap64 ((i : Int) + 1) = ((i + 1 : Nat) : Int) := by rw [up1 _ (by omega) (by omega)]; omega
    simp only [spec_NameOk.l0, nmGo, nmByte]
    rw [if_pos (by omega), if_pos (by omega), l1Letter_f, l1Digit_f, e3, ih (i + 1) k (by omega) (by omega)]
    simp only [Option.bind_some]
    generalize bt s (i : Int) = c
    generalize nmGo s d (i + 1) = g
    generalize ((decide (97 ≤ c) && decide (c ≤ 122)) || (decide (65 ≤ c) && decide (c ≤ 90))) = p
    generalize (decide (48 ≤ c) && decide (c ≤ 57)) = q
    cases p <;> cases q <;> simp
    by_cases h1 : c = 45
    · simp [h1]
    · by_cases h2 : c = 95
      · simp [h2]
      · by_cases h3 : c = 46
        · simp [h3]
        · by_cases h4 : c = 43
          · simp [h4]
          · simp [h1, h2, h3, h4]
theorem spec_NameOk_f (s : ByteArray) (k : Nat) (hk : 63 ≤ k) : spec_NameOk.f k s = some (nmOk s) := by
  obtain ⟨k, rfl⟩ : ∃ m, k = m + 1 := ⟨k - 1, by omega⟩
  unfold spec_NameOk.f nmOk
  simp only [spec_NameOk.j0]
  by_cases h1 : (s.size : Int) < 1
  · rw [if_pos h1]
    have : ¬ 1 ≤ s.size := by omega
    simp [this]
  · rw [if_neg h1]
    have e1 : 1 ≤ s.size := by omega
    by_cases h2 : (s.size : Int) > 60
    · rw [if_pos h2]
      have : ¬ s.size ≤ 60 := by omega
      simp [this]
    · rw [if_neg h2, if_pos (by omega)]
      have e2 : s.size ≤ 60 := by omega
      have h := spec_NameOk_loop s e2 s.size 0 k (by omega) (by omega)
      rw [show ((0 : Nat) : Int) = 0 from rfl] at h
      rw [h]
      by_cases h3 : bt s 0 = 46
      · simp [h3]
      · simp [h3, e1, e2]
theorem w32_byte (s : ByteArray) (i : Int) : wrap32 (bt s i) = bt s i := by
  have := bt_range s i
  unfold wrap32; omega
theorem impl_NameOk_loop (s : ByteArray) (hs : s.size ≤ 60) : ∀ (d i k : Nat), i + d = s.size → d < k → impl_NameOk.l0 k s (s.size : Int) (i : Int) = some (nmGo s d i) := by
  intro d
  induction d with
  | zero =>
    intro i k hi hk
    obtain ⟨k, rfl⟩ : ∃ m, k = m + 1 := ⟨k - 1, by omega⟩
    simp only [impl_NameOk.l0]; rw [if_neg (by omega)]; rfl
  | succ d ih =>
    intro i k hi hk
    obtain ⟨k, rfl⟩ : ∃ m, k = m + 1 := ⟨k - 1, by omega⟩
    have e3 : wrap64 ((i : Int) + 1) = ((i + 1 : Nat) : Int) := by rw [up1 _ (by omega) (by omega)]; omega
    have hb := bt_range s (i : Int)
    have e4 : strings_ContainsRune.f (⟨#[45, 95, 46, 43]⟩ : ByteArray) (bt s (i : Int)) = some (bt s (i : Int) == 45 || bt s (i : Int) == 95 || bt s (i : Int) == 46 || bt s (i : Int) == 43) := by
      unfold strings_ContainsRune.f
      rw [if_pos (by rw [Lib.toList_data]), if_pos (by omega)]
    simp only [impl_NameOk.l0, nmGo, nmByte]
    rw [if_pos (by omega), if_pos (by omega), if_pos (by omega), letter_f, digit_f, w32_byte, e4, e3, ih (i + 1) k (by omega) (by omega)]
    simp only [Option.bind_some]
    generalize bt s (i : Int) = c
    generalize nmGo s d (i + 1) = g
    generalize ((decide (97 ≤ c) && decide (c ≤ 122)) || (decide (65 ≤ c) && decide (c ≤ 90))) = p
    generalize (decide (48 ≤ c) && decide (c ≤ 57)) = q
    generalize (c == 45) = r1
    generalize (c == 95) = r2
    generalize (c == 46) = r3
    generalize (c == 43) = r4
    cases p <;> cases q <;> cases r1 <;> cases r2 <;> cases r3 <;> cases r4 <;> simp
theorem impl_NameOk_f (s : ByteArray) (k : Nat) (hk : 63 ≤ k) : impl_NameOk.f k s = some (nmOk s) := by
  obtain ⟨k, rfl⟩ : ∃ m, k = m + 1 := ⟨k - 1, by omega⟩
  unfold impl_NameOk.f nmOk
  simp only [impl_NameOk.j0]
  by_cases h1 : (s.size : Int) < 1
  · rw [if_pos h1]
    have : ¬ 1 ≤ s.size := by omega
    simp [this]
  · rw [if_neg h1]
    have e1 : 1 ≤ s.size := by omega
    by_cases h2 : (s.size : Int) > 60
    · rw [if_pos h2]
      have : ¬ s.size ≤ 60 := by omega
      simp [this]
    · rw [if_neg h2, if_pos (by omega)]
      have e2 : s.size ≤ 60 := by omega
      have h := impl_NameOk_loop s e2 s.size 0 k (by omega) (by omega)
      rw [show ((0 : Nat) : Int) = 0 from rfl] at h
      rw [h]
      by_cases h3 : bt s 0 = 46
      · simp [h3]
      · simp [h3, e1, e2]

-- UnitsO
theorem Ev.guard {f g : Nat → Option Bool} {a b : Bool} (h : Ev f a) (h2 : Ev g b) : Ev (fun k => (f k).bind fun t => if t = true then g k else some false) (a && b) := by
  cases a
  · exact Ev.bind h (Ev.neg (by simp) Ev.pure)
  · rw [Bool.true_and]
    exact Ev.bind h (Ev.pos rfl h2)
theorem rd55 (l : List S55) (i : Nat) (h : i < l.length) : rd_T55 l (i : Int) = l[i] := by unfold rd_T55; simp [List.getD_eq_getElem?_getD, List.getElem?_eq_getElem h]
theorem specName_ev (s : ByteArray) : Ev (fun k => spec_NameOk.f k s) (nmOk s) := Ev.of 63 (fun k hk => spec_NameOk_f s k hk)
theorem implName_ev (s : ByteArray) : Ev (fun k => impl_NameOk.f k s) (nmOk s) := Ev.of 63 (fun k hk => impl_NameOk_f s k hk)
theorem rising_ev (l : List ByteArray) (hl : l.length ≤ 1048576) : ∃ b, Ev (fun k => spec_l17Ascending.f k l) (b && decide ((l.length : Int) ≤ 20)) ∧ Ev (fun k => impl_rising_hs.f k l) b := by
  unfold spec_l17Ascending.f impl_rising_hs.f
  refine downTo (l.length + 1) (fun i => 0 < i → ∃ b, Ev (fun k => spec_l17Ascending.l0 k l (i : Int)) (b && decide ((l.length : Int) ≤ 20)) ∧ Ev (fun k => impl_rising_hs.l0 k l (i : Int)) b) ?_ ?_ 1 (by omega) (by omega)
  · intro _
    refine ⟨true, Ev.step ?_, Ev.step ?_⟩
    · simp only [spec_l17Ascending.l0, Bool.true_and]
      exact Ev.neg (by omega) Ev.pure
    · simp only [impl_rising_hs.l0]
      exact Ev.neg (by omega) Ev.pure
  · intro i hi ih h0
    by_cases h : i < l.length
    · obtain ⟨b, h1, h2⟩ := ih (by omega)
      have hd := dnN i (by omega) h0
      have hi1 : i - 1 < l.length := by omega
      by_cases c : Op.bytesLess (l[i - 1]).toList (l[i]).toList = true
      · refine ⟨b, Ev.step ?_, Ev.step ?_⟩
        · simp only [spec_l17Ascending.l0, hd, rdStr l i h, rdStr l (i - 1) hi1, upN i (by omega)]
          exact Ev.pos (by omega) (Ev.pos (by omega) (Ev.pos (by omega) (Ev.pos (by omega) (Ev.pos c h1))))
        · simp only [impl_rising_hs.l0, hd, rdStr l i h, rdStr l (i - 1) hi1, upN i (by omega)]
          exact Ev.pos (by omega) (Ev.pos (by omega) (Ev.pos (by omega) (Ev.pos (by omega) (Ev.pos c h2))))
      · refine ⟨false, Ev.step ?_, Ev.step ?_⟩
        · simp only [spec_l17Ascending.l0, hd, rdStr l i h, rdStr l (i - 1) hi1, Bool.false_and]
          exact Ev.pos (by omega) (Ev.pos (by omega) (Ev.pos (by omega) (Ev.pos (by omega) (Ev.neg c Ev.pure))))
        · simp only [impl_rising_hs.l0, hd, rdStr l i h, rdStr l (i - 1) hi1]
          exact Ev.pos (by omega) (Ev.pos (by omega) (Ev.pos (by omega) (Ev.pos (by omega) (Ev.neg c Ev.pure))))
    · refine ⟨true, Ev.step ?_, Ev.step ?_⟩
      · simp only [spec_l17Ascending.l0, Bool.true_and]
        exact Ev.neg (by omega) Ev.pure
      · simp only [impl_rising_hs.l0]
        exact Ev.neg (by omega) Ev.pure
theorem names_ev (l : List ByteArray) (hl : l.length ≤ 1048576) (b : Bool) (hb : Ev (fun k => impl_rising_hs.f k l) b) : ∃ c, Ev (fun k => spec_l8Names.f k l) (c && decide ((l.length : Int) ≤ 2000)) ∧ Ev (fun k => impl_namesUp.f k l) (c && b) := by
  unfold spec_l8Names.f impl_namesUp.f
  refine downTo l.length (fun i => ∃ c, Ev (fun k => spec_l8Names.l0 k l (i : Int)) (c && decide ((l.length : Int) ≤ 2000)) ∧ Ev (fun k => impl_namesUp.l0 k l l (l.length : Int) (i : Int)) (c && b)) ?_ ?_ 0 (by omega)
  · refine ⟨true, Ev.step ?_, Ev.step ?_⟩
    · simp only [spec_l8Names.l0, Bool.true_and]
      exact Ev.neg (by omega) Ev.pure
    · simp only [impl_namesUp.l0, Bool.true_and]
      exact Ev.neg (by omega) (Ev.bind hb Ev.pure)
  · intro i hi ⟨c, h1, h2⟩
    refine ⟨nmOk l[i] && c, Ev.step ?_, Ev.step ?_⟩
    · simp only [spec_l8Names.l0, rdStr l i hi, upN i (by omega), Bool.and_assoc]
      exact Ev.pos (by omega) (Ev.pos (by omega) (Ev.guard (specName_ev _) h1))
    · simp only [impl_namesUp.l0, rdStr l i hi, upN i (by omega), Bool.and_assoc]
      exact Ev.pos (by omega) (Ev.pos (by omega) (Ev.pos (by omega) (Ev.guard (implName_ev _) h2)))
theorem UnitsOk_ev (x : List S55) (hx : x.length ≤ 1048576) (ok : ∀ u ∈ x, u.f1.length ≤ 1048576 ∧ u.f2.length ≤ 1048576) : ∃ b, Ev (fun k => spec_UnitsOk.f k x) b ∧ Ev (fun k => impl_UnitsOk.f k x) b := by
  unfold spec_UnitsOk.f impl_UnitsOk.f
  by_cases c0 : (x.length : Int) > 100
  · exact ⟨false, Ev.pos c0 Ev.pure, Ev.pos c0 Ev.pure⟩
  have key := downTo x.length (fun i => ∃ b, Ev (fun k => spec_UnitsOk.l0 k x (i : Int)) b ∧ Ev (fun k => impl_UnitsOk.l0 k x x (x.length : Int) (i : Int)) b) ?_ ?_ 0 (by omega)
  · obtain ⟨b, h1, h2⟩ := key
    exact ⟨b, Ev.neg c0 h1, Ev.neg c0 h2⟩
  · refine ⟨true, Ev.step ?_, Ev.step ?_⟩
    · simp only [spec_UnitsOk.l0]
      exact Ev.neg (by omega) Ev.pure
    · simp only [impl_UnitsOk.l0]
      exact Ev.neg (by omega) Ev.pure
  · intro i hi ⟨b', g1, g2⟩
    obtain ⟨o1, o2⟩ := ok _ (List.getElem_mem hi)
    obtain ⟨b1, a1, r1⟩ := rising_ev (x[i]).f1 o1
    obtain ⟨b2, a2, r2⟩ := rising_ev (x[i]).f2 o2
    obtain ⟨n1, s1, i1⟩ := names_ev (x[i]).f1 o1 b1 r1
    obtain ⟨n2, s2, i2⟩ := names_ev (x[i]).f2 o2 b2 r2
    have fs : Ev (fun k => if ((x[i]).f3.size : Int) > 4000 then some false else spec_UnitsOk.l0 k x ((i + 1 : Nat) : Int)) (if ((x[i]).f3.size : Int) > 4000 then false else b') := by
      by_cases c : ((x[i]).f3.size : Int) > 4000
      · rw [if_pos c]; exact Ev.pos c Ev.pure
      · rw [if_neg c]; exact Ev.neg c g1
    have fi : Ev (fun k => if ((x[i]).f3.size : Int) > 4000 then some false else impl_UnitsOk.l0 k x x (x.length : Int) ((i + 1 : Nat) : Int)) (if ((x[i]).f3.size : Int) > 4000 then false else b') := by
      by_cases c : ((x[i]).f3.size : Int) > 4000
      · rw [if_pos c]; exact Ev.pos c Ev.pure
      · rw [if_neg c]; exact Ev.neg c g2
    generalize (if ((x[i]).f3.size : Int) > 4000 then false else b') = e at fs fi
    have ts := Ev.guard a1 (Ev.guard a2 (Ev.guard s1 (Ev.guard s2 fs)))
    have ti0 := Ev.guard i1 (Ev.guard i2 fi)
    have ti : Ev (fun k => if ((x[i]).f1.length : Int) > 20 then some false else (if ((x[i]).f2.length : Int) > 20 then some false else ((impl_namesUp.f k (x[i]).f1).bind fun t => if t = true then ((impl_namesUp.f k (x[i]).f2).bind fun t => if t = true then (if ((x[i]).f3.size : Int) > 4000 then some false else impl_UnitsOk.l0 k x x (x.length : Int) ((i + 1 : Nat) : Int)) else some false) else some false)))
        ((b1 && decide (((x[i]).f1.length : Int) ≤ 20)) && ((b2 && decide (((x[i]).f2.length : Int) ≤ 20)) && ((n1 && decide (((x[i]).f1.length : Int) ≤ 2000)) && ((n2 && decide (((x[i]).f2.length : Int) ≤ 2000)) && e)))) := by
      by_cases l1 : ((x[i]).f1.length : Int) > 20
      · rw [decide_eq_false (show ¬ ((x[i]).f1.length : Int) ≤ 20 by omega), Bool.and_false, Bool.false_and]
        exact Ev.pos l1 Ev.pure
      · by_cases l2 : ((x[i]).f2.length : Int) > 20
        · rw [decide_eq_false (show ¬ ((x[i]).f2.length : Int) ≤ 20 by omega), Bool.and_false, Bool.false_and, Bool.and_false]
          exact Ev.neg l1 (Ev.pos l2 Ev.pure)
        · rw [decide_eq_true (show ((x[i]).f1.length : Int) ≤ 20 by omega), decide_eq_true (show ((x[i]).f2.length : Int) ≤ 20 by omega), decide_eq_true (show ((x[i]).f1.length : Int) ≤ 2000 by omega), decide_eq_true (show ((x[i]).f2.length : Int) ≤ 2000 by omega)]
          have e1 : ((b1 && true) && ((b2 && true) && ((n1 && true) && ((n2 && true) && e)))) = ((n1 && b1) && ((n2 && b2) && e)) := by
            cases b1 <;> cases b2 <;> cases n1 <;> cases n2 <;> rfl
          rw [e1]
          exact Ev.neg l1 (Ev.neg l2 ti0)
    generalize ((b1 && decide (((x[i]).f1.length : Int) ≤ 20)) && ((b2 && decide (((x[i]).f2.length : Int) ≤ 20)) && ((n1 && decide (((x[i]).f1.length : Int) ≤ 2000)) && ((n2 && decide (((x[i]).f2.length : Int) ≤ 2000)) && e)))) = q at ts ti
    refine ⟨nmOk (x[i]).f0 && (if 0 < i then Op.bytesLess ((x[i - 1]).f0).toList ((x[i]).f0).toList && q else q), Ev.step ?_, Ev.step ?_⟩
    · simp only [spec_UnitsOk.l0, rd55 x i hi, upN i (by omega)]
      refine Ev.pos (by omega) (Ev.pos (by omega) (Ev.guard (specName_ev _) ?_))
      by_cases c : 0 < i
      · have hi1 : i - 1 < x.length := by omega
        simp only [if_pos c, dnN i (by omega) c, rd55 x (i - 1) hi1]
        refine Ev.pos (by omega) (Ev.pos (by omega) (Ev.pos (by omega) ?_))
        by_cases d : Op.bytesLess ((x[i - 1]).f0).toList ((x[i]).f0).toList = true
        · rw [d, Bool.true_and]
          exact Ev.pos rfl ts
        · rw [Bool.eq_false_iff.mpr d, Bool.false_and]
          exact Ev.neg (by simp) Ev.pure
      · rw [if_neg c]
        exact Ev.neg (by omega) ts
    · simp only [impl_UnitsOk.l0, rd55 x i hi, upN i (by omega)]
      refine Ev.pos (by omega) (Ev.pos (by omega) (Ev.pos (by omega) (Ev.guard (implName_ev _) ?_)))
      by_cases c : 0 < i
      · have hi1 : i - 1 < x.length := by omega
        simp only [if_pos c, dnN i (by omega) c, rd55 x (i - 1) hi1]
        refine Ev.pos (by omega) (Ev.pos (by omega) (Ev.pos (by omega) ?_))
        by_cases d : Op.bytesLess ((x[i - 1]).f0).toList ((x[i]).f0).toList = true
        · rw [d, Bool.true_and]
          exact Ev.pos rfl ti
        · rw [Bool.eq_false_iff.mpr d, Bool.false_and]
          exact Ev.neg (by simp) Ev.pure
      · rw [if_neg c]
        exact Ev.neg (by omega) ti

-- UnitsF
/-- What units that are ok are. -/
structure UOk (x : List S55) : Prop where
  len : x.length ≤ 100
  ord : ∀ (j : Nat) (h : j < x.length), 0 < j → ltS (x[j - 1]).f0 (x[j]).f0
  cnt : ∀ u ∈ x, u.f1.length ≤ 20 ∧ u.f2.length ≤ 20
theorem unitsInv (x : List S55) (hx : x.length ≤ 100) : ∀ (d i k : Nat), i + d = x.length → impl_UnitsOk.l0 k x x (x.length : Int) (i : Int) = some true → ∀ (j : Nat) (hj : j < x.length), i ≤ j → (x[j]).f1.length ≤ 20 ∧ (x[j]).f2.length ≤ 20 ∧ (0 < j → ltS (x[j - 1]).f0 (x[j]).f0) := by
  intro d
  induction d with
  | zero => intro i k hd _ j hj hij; omega
  | succ d ih =>
    intro i k hd h j hj hij
    cases k with
    | zero => exact absurd h (by simp [impl_UnitsOk.l0])
    | succ k =>
      have hi : i < x.length := by omega
      simp only [impl_UnitsOk.l0, rd55 x i hi, upN i (by omega)] at h
      rw [if_pos (by omega), if_pos (by omega), if_pos (by omega)] at h
      obtain ⟨t, _, h⟩ := Option.bind_eq_some_iff.mp h
      have rest : ∀ {f g : Option Bool}, (if ((x[i]).f1.length : Int) > 20 then some false else (if ((x[i]).f2.length : Int) > 20 then some false else (f.bind fun t => if t = true then (g.bind fun t => if t = true then (if ((x[i]).f3.size : Int) > 4000 then some false else impl_UnitsOk.l0 k x x (x.length : Int) ((i + 1 : Nat) : Int)) else some false) else some false))) = some true →
          (x[i]).f1.length ≤ 20 ∧ (x[i]).f2.length ≤ 20 ∧ impl_UnitsOk.l0 k x x (x.length : Int) ((i + 1 : Nat) : Int) = some true := by
        intro f g h
        split at h
        · exact absurd h (by simp)
        · split at h
          · exact absurd h (by simp)
          · obtain ⟨t, _, h⟩ := Option.bind_eq_some_iff.mp h
            split at h
            · obtain ⟨t, _, h⟩ := Option.bind_eq_some_iff.mp h
              split at h
              · split at h
                · exact absurd h (by simp)
                · exact ⟨by omega, by omega, h⟩
              · exact absurd h (by simp)
            · exact absurd h (by simp)
      have main : (x[i]).f1.length ≤ 20 ∧ (x[i]).f2.length ≤ 20 ∧ (0 < i → ltS (x[i - 1]).f0 (x[i]).f0) ∧ impl_UnitsOk.l0 k x x (x.length : Int) ((i + 1 : Nat) : Int) = some true := by
        by_cases ht : t = true
        · rw [if_pos ht] at h
          by_cases c : 0 < i
          · have hi1 : i - 1 < x.length := by omega
            rw [if_pos (by omega)] at h
            simp only [dnN i (by omega) c, rd55 x (i - 1) hi1] at h
            rw [if_pos (by omega), if_pos (by omega)] at h
            by_cases e : Op.bytesLess ((x[i - 1]).f0).toList ((x[i]).f0).toList = true
            · rw [if_pos e] at h
              obtain ⟨a, b, c'⟩ := rest h
              exact ⟨a, b, fun _ => e, c'⟩
            · rw [if_neg e] at h
              exact absurd h (by simp)
          · rw [if_neg (by omega)] at h
            obtain ⟨a, b, c'⟩ := rest h
            exact ⟨a, b, fun h0 => absurd h0 c, c'⟩
        · rw [if_neg ht] at h
          exact absurd h (by simp)
      obtain ⟨a, b, c, e⟩ := main
      by_cases hji : j = i
      · subst hji
        exact ⟨a, b, c⟩
      · exact ih (i + 1) k (by omega) e j hj (by omega)
theorem UOk_of {x : List S55} (h : Ev (fun k => impl_UnitsOk.f k x) true) : UOk x := by
  obtain ⟨k, h⟩ := h.at
  unfold impl_UnitsOk.f at h
  by_cases c : (x.length : Int) > 100
  · rw [if_pos c] at h
    exact absurd h (by simp)
  · rw [if_neg c] at h
    have key := unitsInv x (by omega) x.length 0 k (by omega) h
    exact ⟨by omega, fun j hj h0 => (key j hj (by omega)).2.2 h0, fun u hu => by
      obtain ⟨j, hj, rfl⟩ := List.getElem_of_mem hu
      exact ⟨(key j hj (by omega)).1, (key j hj (by omega)).2.1⟩⟩
def namesU (x : List S55) : List ByteArray := x.map fun u => u.f0
theorem UOk.lt {x : List S55} (h : UOk x) : ∀ (d i : Nat) (hd : i + 1 + d < x.length), ltS (x[i]).f0 (x[i + 1 + d]).f0 := by
  intro d
  induction d with
  | zero => intro i hd; exact h.ord (i + 1) hd (by omega)
  | succ d ih =>
    intro i hd
    exact ltS_trans (ih i (by omega)) (h.ord (i + 1 + (d + 1)) hd (by omega))
theorem UOk.inj {x : List S55} (h : UOk x) {i j : Nat} (hi : i < x.length) (hj : j < x.length) (e : (x[i]).f0 = (x[j]).f0) : i = j := by
  rcases Nat.lt_trichotomy i j with c | c | c
  · have := h.lt (j - i - 1) i (by omega)
    simp only [show i + 1 + (j - i - 1) = j by omega] at this
    rw [e] at this
    exact absurd this (ltS_irr _)
  · exact c
  · have := h.lt (i - j - 1) j (by omega)
    simp only [show j + 1 + (i - j - 1) = i by omega] at this
    rw [e] at this
    exact absurd this (ltS_irr _)
theorem has_ev (l : List ByteArray) (s : ByteArray) (hl : l.length ≤ 1000000000) : Ev (fun k => spec_l3Has.f k l s) (hasW l s) := by
  unfold spec_l3Has.f
  have key := downTo l.length (fun i => Ev (fun k => spec_l3Has.l0 k l s (i : Int)) (hasW (l.drop i) s)) ?_ ?_ 0 (by omega)
  · simpa using key
  · refine Ev.step ?_
    simp only [spec_l3Has.l0, List.drop_length]
    exact Ev.neg (by omega) Ev.pure
  · intro i hi ih
    refine Ev.step ?_
    simp only [spec_l3Has.l0, rdStr l i hi, upN i (by omega)]
    rw [List.drop_eq_getElem_cons hi]
    refine Ev.pos (by omega) (Ev.pos (by omega) ?_)
    by_cases c : (l[i]).toList = s.toList
    · have e : hasW (l[i] :: l.drop (i + 1)) s = true := by
        unfold hasW
        rw [List.any_cons, decide_eq_true c, Bool.true_or]
      rw [e]
      exact Ev.pos c Ev.pure
    · have e : hasW (l[i] :: l.drop (i + 1)) s = hasW (l.drop (i + 1)) s := by
        unfold hasW
        rw [List.any_cons, decide_eq_false c, Bool.false_or]
      rw [e]
      exact Ev.neg c ih
/-- Where a unit of this name is. -/
def isAt (x : List S55) (s : ByteArray) (t : Int) : Prop := (t < 0 ∧ s ∉ namesU x) ∨ ∃ (i : Nat) (h : i < x.length), t = (i : Int) ∧ (x[i]).f0 = s
theorem find_ev (x : List S55) (hx : x.length ≤ 1048576) (s : ByteArray) : ∃ t : Int, Ev (fun k => spec_l18Find.f k x s) t ∧ Ev (fun k => impl_unitOf.f k x s) t ∧ isAt x s t := by
  unfold spec_l18Find.f impl_unitOf.f
  have key := downTo x.length (fun i => ∃ t : Int, Ev (fun k => spec_l18Find.l0 k x s (i : Int)) t ∧ Ev (fun k => impl_unitOf.l0 k s x (x.length : Int) (i : Int)) t ∧ ((t < 0 ∧ s ∉ namesU (x.drop i)) ∨ ∃ (i : Nat) (h : i < x.length), t = (i : Int) ∧ (x[i]).f0 = s)) ?_ ?_ 0 (by omega)
  · obtain ⟨t, a, b, c⟩ := key
    exact ⟨t, a, b, by simpa [isAt] using c⟩
  · refine ⟨-1, Ev.step ?_, Ev.step ?_, .inl ⟨by omega, by simp [namesU]⟩⟩
    · simp only [spec_l18Find.l0]
      exact Ev.neg (by omega) Ev.pure
    · simp only [impl_unitOf.l0]
      exact Ev.neg (by omega) Ev.pure
  · intro i hi ⟨t, a, b, c⟩
    by_cases d : ((x[i]).f0).toList = s.toList
    · refine ⟨(i : Int), Ev.step ?_, Ev.step ?_, .inr ⟨i, hi, rfl, toList_inj d⟩⟩
      · simp only [spec_l18Find.l0, rd55 x i hi]
        exact Ev.pos (by omega) (Ev.pos (by omega) (Ev.pos d Ev.pure))
      · simp only [impl_unitOf.l0, rd55 x i hi]
        exact Ev.pos (by omega) (Ev.pos (by omega) (Ev.pos (by omega) (Ev.pos d Ev.pure)))
    · refine ⟨t, Ev.step ?_, Ev.step ?_, c.imp_left fun e => ⟨e.1, ?_⟩⟩
      · simp only [spec_l18Find.l0, rd55 x i hi, upN i (by omega)]
        exact Ev.pos (by omega) (Ev.pos (by omega) (Ev.neg d a))
      · simp only [impl_unitOf.l0, rd55 x i hi, upN i (by omega)]
        exact Ev.pos (by omega) (Ev.pos (by omega) (Ev.pos (by omega) (Ev.neg d b)))
      · rw [List.drop_eq_getElem_cons hi]
        intro h
        rcases List.mem_cons.1 h with h | h
        · exact d (by rw [h])
        · exact e.2 h
theorem isAt_neg {x : List S55} {s : ByteArray} {t : Int} (h : isAt x s t) : t < 0 ↔ s ∉ namesU x := by
  rcases h with ⟨a, b⟩ | ⟨i, hi, rfl, rfl⟩
  · exact ⟨fun _ => b, fun _ => a⟩
  · exact ⟨fun h => absurd h (by omega), fun h => absurd (List.mem_map.2 ⟨x[i], List.getElem_mem hi, rfl⟩) h⟩
def hasU (x : List S55) (s : ByteArray) : Bool := hasW (namesU x) s
theorem isAt_has {x : List S55} {s : ByteArray} {t : Int} (h : isAt x s t) : t < 0 ↔ hasU x s = false := by
  rw [isAt_neg h, hasU, ← Bool.not_eq_true, hasW_iff]

-- LeftU
/-- How many of the units are not told yet. -/
def leftU (us : List S55) (S : List ByteArray) : Nat := us.countP fun u => !hasW S u.f0
theorem countP_le {α : Type} (l : List α) (p q : α → Bool) (h : ∀ x ∈ l, p x = true → q x = true) : l.countP p ≤ l.countP q := List.countP_mono_left h
theorem countP_lt {α : Type} (l : List α) (p q : α → Bool) (h : ∀ x ∈ l, p x = true → q x = true) (x : α) (hx : x ∈ l) (hp : p x = false) (hq : q x = true) : l.countP p < l.countP q := by
  induction l with
  | nil => exact absurd hx (by simp)
  | cons a r ih =>
    rw [List.countP_cons, List.countP_cons]
    have hr := countP_le r p q (fun y hy => h y (List.mem_cons_of_mem _ hy))
    rcases List.mem_cons.1 hx with rfl | hx
    · rw [hp, hq]
      simp only [Bool.false_eq_true, if_false, if_true]
      omega
    · have := ih (fun y hy => h y (List.mem_cons_of_mem _ hy)) hx
      have ha := h a List.mem_cons_self
      cases hpa : p a
      · cases hqa : q a
        · simp only [Bool.false_eq_true, if_false]
          omega
        · simp only [Bool.false_eq_true, if_false, if_true]
          omega
      · rw [ha hpa]
        simp only [if_true]
        omega
theorem leftU_le (us : List S55) (S : List ByteArray) : leftU us S ≤ us.length := List.countP_le_length
theorem hasW_mono {S T : List ByteArray} (h : ∀ s ∈ S, s ∈ T) (s : ByteArray) (hs : (!hasW T s) = true) : (!hasW S s) = true := by
  rw [Bool.not_eq_true'] at *
  rw [← Bool.not_eq_true] at *
  exact fun e => hs ((hasW_iff _ _).2 (h s ((hasW_iff _ _).1 e)))
theorem leftU_lt {us : List S55} {S T : List ByteArray} (h : ∀ s ∈ S, s ∈ T) {u : S55} (hu : u ∈ us) (h1 : u.f0 ∉ S) (h2 : u.f0 ∈ T) : leftU us T < leftU us S := by
  refine countP_lt us _ _ (fun x _ => hasW_mono h x.f0) u hu ?_ ?_
  · rw [(hasW_iff _ _).2 h2]
    rfl
  · rw [Bool.not_eq_true', ← Bool.not_eq_true]
    exact fun e => h1 ((hasW_iff _ _).1 e)

-- AddS
theorem insS_len (l : List ByteArray) (s : ByteArray) : (insS l s).length ≤ l.length + 1 := by
  induction l with
  | nil => simp [insS]
  | cons a r ih =>
    unfold insS
    repeat' split
    all_goals simp only [List.length_cons]
    all_goals omega
theorem l3Add_ev (l : List ByteArray) (s : ByteArray) (hl : l.length ≤ 1000000) : Ev (fun k => spec_l3Add.f k l s) (insS l s) := by
  unfold spec_l3Add.f
  have key := downTo l.length (fun i => Ev (fun k => spec_l3Add.l0 k l s (i : Int)) (l.take i ++ insS (l.drop i) s)) ?_ ?_ 0 (by omega)
  · simpa using key
  · refine Ev.step ?_
    simp only [spec_l3Add.l0, Option.bind_some, Int.toNat_natCast, List.nil_append]
    refine Ev.neg (by omega) (Ev.pos (by omega) (Ev.pos (by omega) (Ev.pos (by simp; omega) (Ev.pos (by simp; omega) (Ev.pos (by simp; omega) ?_)))))
    simp [insS]
    exact Ev.pure
  · intro i hi ih
    refine Ev.step ?_
    simp only [spec_l3Add.l0, Option.bind_some, Int.toNat_natCast, List.nil_append, rdStr l i hi, upN i (by omega)]
    refine Ev.pos (by omega) (Ev.pos (by omega) ?_)
    rw [List.drop_eq_getElem_cons hi, insS]
    by_cases c : Op.bytesLess (l[i]).toList s.toList = true
    · rw [if_pos c]
      rw [← List.take_append_getElem hi, List.append_assoc] at ih
      exact Ev.pos c ih
    · rw [if_neg c]
      refine Ev.neg c ?_
      by_cases c2 : (l[i]).toList = s.toList
      · refine Ev.pos c2 ?_
        rw [if_pos c2, ← List.drop_eq_getElem_cons hi, List.take_append_drop]
        exact Ev.pure
      · refine Ev.neg c2 (Ev.pos (by omega) (Ev.pos (by simp; omega) (Ev.pos (by simp; omega) (Ev.pos (by simp; omega) ?_))))
        rw [if_neg c2, ← List.drop_eq_getElem_cons hi, List.append_assoc]
        exact Ev.pure

-- Failing
/-- What fails: the least set. -/
inductive Bad (us : List S55) (B : List ByteArray) : ByteArray → Prop
  | brk (u : S55) : u ∈ us → u.f0 ∈ B → Bad us B u.f0
  | miss (u : S55) (n : ByteArray) : u ∈ us → n ∈ u.f2 → hasU us n = false → Bad us B u.f0
  | dep (u : S55) (n : ByteArray) : u ∈ us → n ∈ u.f2 → Bad us B n → Bad us B u.f0
theorem Bad.name {us : List S55} {B : List ByteArray} {s : ByteArray} (h : Bad us B s) : s ∈ namesU us := by
  cases h with
  | brk u hu _ => exact List.mem_map.2 ⟨u, hu, rfl⟩
  | miss u _ hu _ _ => exact List.mem_map.2 ⟨u, hu, rfl⟩
  | dep u _ hu _ _ => exact List.mem_map.2 ⟨u, hu, rfl⟩
/-! ### The reference -/
def badNow (us : List S55) (B S : List ByteArray) (u : S55) : Bool := hasW B u.f0 || u.f2.any fun n => hasW S n || !hasU us n
def passGo (us : List S55) (B : List ByteArray) : List ByteArray → List S55 → List ByteArray
  | S, [] => S
  | S, u :: r => passGo us B (if badNow us B S u = true then insS S u.f0 else S) r
def failIt (us : List S55) (B : List ByteArray) : Nat → List ByteArray → List ByteArray
  | 0, S => S
  | n + 1, S => failIt us B n (passGo us B S us)
theorem passGo_mem (us : List S55) (B : List ByteArray) (r : List S55) : ∀ S : List ByteArray, ∀ s ∈ S, s ∈ passGo us B S r := by
  induction r with
  | nil => intro S s hs; exact hs
  | cons u r ih =>
    intro S s hs
    refine ih _ s ?_
    split
    · exact (mem_insS S u.f0 s).2 (.inl hs)
    · exact hs
theorem passGo_asc (us : List S55) (B : List ByteArray) (r : List S55) : ∀ S : List ByteArray, asc S → asc (passGo us B S r) := by
  induction r with
  | nil => intro S h; exact h
  | cons u r ih =>
    intro S h
    refine ih _ ?_
    split
    · exact asc_insS h _
    · exact h
theorem passGo_sound (us : List S55) (B : List ByteArray) (r : List S55) : ∀ S : List ByteArray, (∀ u ∈ r, u ∈ us) → (∀ s ∈ S, Bad us B s) → ∀ s ∈ passGo us B S r, Bad us B s := by
  induction r with
  | nil => intro S _ h; exact h
  | cons u r ih =>
    intro S hr h
    refine ih _ (fun x hx => hr x (List.mem_cons_of_mem _ hx)) ?_
    split
    · rename_i hb
      intro s hs
      rcases (mem_insS S u.f0 s).1 hs with hs | rfl
      · exact h s hs
      · unfold badNow at hb
        rw [Bool.or_eq_true] at hb
        rcases hb with hb | hb
        · exact .brk u (hr u List.mem_cons_self) ((hasW_iff _ _).1 hb)
        · obtain ⟨n, hn, hb⟩ := List.any_eq_true.1 hb
          rw [Bool.or_eq_true] at hb
          rcases hb with hb | hb
          · exact .dep u n (hr u List.mem_cons_self) hn (h n ((hasW_iff _ _).1 hb))
          · exact .miss u n (hr u List.mem_cons_self) hn (by simpa using hb)
    · exact h
theorem passGo_closed (us : List S55) (B : List ByteArray) (r : List S55) : ∀ S : List ByteArray, asc S → (∀ s ∈ passGo us B S r, s ∈ S) → ∀ u ∈ r, badNow us B S u = true → u.f0 ∈ S := by
  induction r with
  | nil => intro S _ _ u hu; exact absurd hu (by simp)
  | cons v r ih =>
    intro S ha h u hu hb
    have h1 : ∀ s ∈ (if badNow us B S v = true then insS S v.f0 else S), s ∈ S := fun s hs => h s (passGo_mem us B r _ s hs)
    by_cases c : badNow us B S v = true
    · rw [if_pos c] at h1
      have hv : v.f0 ∈ S := h1 _ ((mem_insS S v.f0 v.f0).2 (.inr rfl))
      have e : insS S v.f0 = S := asc_uniq (asc_insS ha _) ha (fun s => ⟨h1 s, fun hs => (mem_insS S v.f0 s).2 (.inl hs)⟩)
      rcases List.mem_cons.1 hu with rfl | hu
      · exact hv
      · refine ih S ha ?_ u hu hb
        unfold passGo at h
        rw [if_pos c, e] at h
        exact h
    · rcases List.mem_cons.1 hu with rfl | hu
      · exact absurd hb c
      · refine ih S ha ?_ u hu hb
        unfold passGo at h
        rw [if_neg c] at h
        exact h
theorem closed_all {us : List S55} {B S : List ByteArray} (h : ∀ u ∈ us, badNow us B S u = true → u.f0 ∈ S) {s : ByteArray} (hs : Bad us B s) : s ∈ S := by
  induction hs with
  | brk u hu hb => exact h u hu (by unfold badNow; rw [(hasW_iff _ _).2 hb]; rfl)
  | miss u n hu hn hm => exact h u hu (by unfold badNow; rw [Bool.or_eq_true]; exact .inr (List.any_eq_true.2 ⟨n, hn, by rw [hm]; simp⟩))
  | dep u n hu hn _ ih => exact h u hu (by unfold badNow; rw [Bool.or_eq_true]; exact .inr (List.any_eq_true.2 ⟨n, hn, by rw [(hasW_iff _ _).2 ih]; rfl⟩))
theorem failIt_fix {us : List S55} {B S : List ByteArray} (h : passGo us B S us = S) : ∀ n, failIt us B n S = S := by
  intro n
  induction n with
  | zero => rfl
  | succ n ih =>
    unfold failIt
    rw [h]
    exact ih
theorem failIt_end {us : List S55} {B : List ByteArray} : ∀ (n : Nat) (S : List ByteArray), asc S → (∀ s ∈ S, s ∈ namesU us) → leftU us S ≤ n → passGo us B (failIt us B n S) us = failIt us B n S := by
  intro n
  induction n with
  | zero =>
    intro S ha hn hl
    have hsub : ∀ s ∈ passGo us B S us, s ∈ S := by
      intro s hs
      suffices h : ∀ (r : List S55) (S : List ByteArray), (∀ u ∈ r, u ∈ us) → leftU us S = 0 → ∀ s ∈ passGo us B S r, s ∈ S from h us S (fun _ h => h) (by omega) s hs
      intro r
      induction r with
      | nil => intro S _ _ s h; exact h
      | cons u r ih =>
        intro S hr hl s hs
        unfold passGo at hs
        by_cases c : badNow us B S u = true
        · rw [if_pos c] at hs
          have hu : u.f0 ∈ S := by
            have := List.countP_eq_zero.1 hl u (hr u List.mem_cons_self)
            exact (hasW_iff _ _).1 (by simpa using this)
          have := ih (insS S u.f0) (fun x hx => hr x (List.mem_cons_of_mem _ hx)) (by
            have : leftU us (insS S u.f0) ≤ leftU us S := countP_le us _ _ (fun x _ => hasW_mono (fun s hs => (mem_insS S u.f0 s).2 (.inl hs)) x.f0)
            omega) s hs
          rcases (mem_insS S u.f0 s).1 this with h | rfl
          · exact h
          · exact hu
        · rw [if_neg c] at hs
          exact ih S (fun x hx => hr x (List.mem_cons_of_mem _ hx)) hl s hs
    exact asc_uniq (passGo_asc us B us S ha) ha (fun s => ⟨hsub s, passGo_mem us B us S s⟩)
  | succ n ih =>
    intro S ha hn hl
    by_cases c : ∀ s ∈ passGo us B S us, s ∈ S
    · have e : passGo us B S us = S := asc_uniq (passGo_asc us B us S ha) ha (fun s => ⟨c s, passGo_mem us B us S s⟩)
      rw [failIt_fix e]
      exact e
    · have hn' : ∀ s ∈ passGo us B S us, s ∈ namesU us := by
        suffices h : ∀ (r : List S55) (S : List ByteArray), (∀ u ∈ r, u ∈ us) → (∀ s ∈ S, s ∈ namesU us) → ∀ s ∈ passGo us B S r, s ∈ namesU us from h us S (fun _ h => h) hn
        intro r
        induction r with
        | nil => intro S _ h; exact h
        | cons u r ih =>
          intro S hr h
          refine ih _ (fun x hx => hr x (List.mem_cons_of_mem _ hx)) ?_
          split
          · intro s hs
            rcases (mem_insS S u.f0 s).1 hs with hs | rfl
            · exact h s hs
            · exact List.mem_map.2 ⟨u, hr u List.mem_cons_self, rfl⟩
          · exact h
      have : ∃ s, s ∈ passGo us B S us ∧ s ∉ S := Classical.byContradiction fun e => c fun s hs => Classical.byContradiction fun h => e ⟨s, hs, h⟩
      obtain ⟨s, hs, hns⟩ := this
      obtain ⟨u, hu, rfl⟩ := List.mem_map.1 (hn' s hs)
      have hlt := leftU_lt (passGo_mem us B us S) hu hns hs
      unfold failIt
      exact ih _ (passGo_asc us B us S ha) hn' (by omega)
theorem failIt_snoc (us : List S55) (B : List ByteArray) : ∀ (n : Nat) (S : List ByteArray), failIt us B (n + 1) S = passGo us B (failIt us B n S) us := by
  intro n
  induction n with
  | zero => intro S; rfl
  | succ n ih => intro S; rw [failIt, ih]; rfl
theorem failIt_keep {us : List S55} {B : List ByteArray} : ∀ (n : Nat) (S : List ByteArray), asc S → (∀ s ∈ S, Bad us B s) → asc (failIt us B n S) ∧ ∀ s ∈ failIt us B n S, Bad us B s := by
  intro n
  induction n with
  | zero => intro S h1 h2; exact ⟨h1, h2⟩
  | succ n ih => intro S h1 h2; exact ih _ (passGo_asc us B us S h1) (passGo_sound us B us S (fun _ h => h) h2)
def failed (us : List S55) (B : List ByteArray) : List ByteArray := failIt us B (us.length + 1) []
theorem failed_asc (us : List S55) (B : List ByteArray) : asc (failed us B) := (failIt_keep _ [] List.Pairwise.nil (fun _ h => absurd h (by simp))).1
theorem failed_iff (us : List S55) (B : List ByteArray) (s : ByteArray) : s ∈ failed us B ↔ Bad us B s := by
  constructor
  · exact (failIt_keep _ [] List.Pairwise.nil (fun _ h => absurd h (by simp))).2 s
  · intro h
    have e : failed us B = failIt us B us.length [] := by
      unfold failed
      rw [failIt_snoc]
      exact failIt_end us.length [] List.Pairwise.nil (fun _ h => absurd h (by simp)) (leftU_le _ _)
    have f : passGo us B (failed us B) us = failed us B := by
      rw [e]
      exact failIt_end us.length [] List.Pairwise.nil (fun _ h => absurd h (by simp)) (leftU_le _ _)
    exact closed_all (passGo_closed us B us (failed us B) (failed_asc us B) (fun s hs => by rw [f] at hs; exact hs)) h
theorem failed_len {us : List S55} (h : us.length ≤ 100) (B : List ByteArray) : (failed us B).length ≤ 10100 := by
  suffices g : ∀ (n : Nat) (S : List ByteArray), (failIt us B n S).length ≤ S.length + n * us.length by
    have := g (us.length + 1) []
    unfold failed
    have h2 : (us.length + 1) * us.length ≤ 101 * 100 := Nat.mul_le_mul (by omega) h
    simp only [List.length_nil, Nat.zero_add] at this
    omega
  have p : ∀ (r : List S55) (S : List ByteArray), (passGo us B S r).length ≤ S.length + r.length := by
    intro r
    induction r with
    | nil => intro S; simp [passGo]
    | cons u r ih =>
      intro S
      have h1 := ih (if badNow us B S u = true then insS S u.f0 else S)
      have h2 := insS_len S u.f0
      unfold passGo
      rw [List.length_cons]
      split at h1
      · rw [if_pos (by assumption)]
        omega
      · rw [if_neg (by assumption)]
        omega
  intro n
  induction n with
  | zero => intro S; simp [failIt]
  | succ n ih =>
    intro S
    have h1 := ih (passGo us B S us)
    have h2 := p us S
    unfold failIt
    rw [Nat.succ_mul]
    omega
/-! ### The reference's run -/
theorem specNeeds_ev (us : List S55) (hu : us.length ≤ 100) (B S : List ByteArray) (hS : S.length ≤ 100000) (x6 : Int) (i : Nat) (u : S55) (h20 : u.f2.length ≤ 20) (b0 : Bool) (r : List ByteArray)
    (h : Ev (fun k => if (b0 || u.f2.any fun n => hasW S n || !hasU us n) = true then ((spec_l3Add.f k S u.f0).bind fun t => spec_Failing.l1 k us B t x6 ((i + 1 : Nat) : Int)) else spec_Failing.l1 k us B S x6 ((i + 1 : Nat) : Int)) r) (hi : i < 1000) :
    Ev (fun k => spec_Failing.l2 k us B S x6 (i : Int) b0 0 u.f0 u.f1 u.f2 u.f3 u.f4) r := by
  have key := downTo u.f2.length (fun j => ∀ b : Bool, (b || (u.f2.drop j).any fun n => hasW S n || !hasU us n) = (b0 || u.f2.any fun n => hasW S n || !hasU us n) → Ev (fun k => spec_Failing.l2 k us B S x6 (i : Int) b (j : Int) u.f0 u.f1 u.f2 u.f3 u.f4) r) ?_ ?_ 0 (by omega)
  · exact key b0 (by simp)
  · intro b hb
    rw [List.drop_length] at hb
    simp only [List.any_nil, Bool.or_false] at hb
    refine Ev.step ?_
    simp only [spec_Failing.l2, upN i (by omega)]
    rw [← hb] at h
    exact Ev.neg (by omega) h
  · intro j hj ih b hb
    rw [List.drop_eq_getElem_cons hj, List.any_cons] at hb
    refine Ev.step ?_
    simp only [spec_Failing.l2, rdStr u.f2 j hj, upN j (by omega)]
    refine Ev.pos (by omega) ?_
    by_cases c : b = true
    · subst c
      exact Ev.pos rfl (ih true (by rw [← hb]; simp))
    · have c' : b = false := by simpa using c
      subst c'
      refine Ev.neg c (Ev.pos (by omega) (Ev.bind (has_ev S (u.f2[j]) (by omega)) ?_))
      by_cases d : hasW S (u.f2[j]) = true
      · exact Ev.pos d (ih true (by rw [← hb, d]; simp))
      · obtain ⟨t, ht, _, ha⟩ := find_ev us (by omega) (u.f2[j])
        refine Ev.neg d (Ev.bind ht (ih (decide (t < 0)) ?_))
        rw [← hb]
        have e : decide (t < 0) = !hasU us (u.f2[j]) := by
          have := isAt_has ha
          cases q : hasU us (u.f2[j])
          · simp [this.2 q]
          · have : ¬ t < 0 := fun e => by rw [this.1 e] at q; cases q
            simp [this]
        rw [e, Bool.eq_false_iff.mpr d]
        simp
theorem specPass_ev (us : List S55) (hu : UOk us) (B : List ByteArray) (hB : B.length ≤ 2000) (x6 : Int) (r : List ByteArray) :
    ∀ S : List ByteArray, S.length ≤ 50000 → Ev (fun k => spec_Failing.l0 k us B (passGo us B S us) (wrap64 (x6 + 1))) r → Ev (fun k => spec_Failing.l1 k us B S x6 0) r := by
  intro S hS h
  have hl := hu.len
  have key := downTo us.length (fun i => ∀ S : List ByteArray, S.length ≤ 50000 + i → passGo us B S (us.drop i) = passGo us B S (us.drop i) → Ev (fun k => spec_Failing.l0 k us B (passGo us B S (us.drop i)) (wrap64 (x6 + 1))) r → Ev (fun k => spec_Failing.l1 k us B S x6 (i : Int)) r) ?_ ?_ 0 (by omega)
  · exact key S (by omega) rfl (by simpa using h)
  · intro S hS _ h
    rw [List.drop_length] at h
    refine Ev.step ?_
    simp only [spec_Failing.l1]
    exact Ev.neg (by omega) h
  · intro i hi ih S hS _ h
    rw [List.drop_eq_getElem_cons hi] at h
    refine Ev.step ?_
    simp only [spec_Failing.l1, rd55 us i hi]
    refine Ev.pos (by omega) (Ev.pos (by omega) (Ev.bind (has_ev B _ (by omega)) ?_))
    refine specNeeds_ev us hl B S (by omega) x6 i (us[i]) (hu.cnt _ (List.getElem_mem hi)).2 _ r ?_ (by omega)
    unfold passGo at h
    by_cases c : badNow us B S us[i] = true
    · rw [if_pos c] at h
      exact Ev.pos c (Ev.bind (l3Add_ev S _ (by omega)) (ih _ (by have := insS_len S (us[i]).f0; omega) rfl h))
    · rw [if_neg c] at h
      exact Ev.neg c (ih _ (by omega) rfl h)
theorem specFail_ev (us : List S55) (B : List ByteArray) (b : Bool) (hb : Ev (fun k => spec_UnitsOk.f k us) b) (hu : b = true → UOk us) : Ev (fun k => spec_Failing.f k us B) (if b = true ∧ B.length ≤ 2000 then failed us B else []) := by
  unfold spec_Failing.f
  refine Ev.cons rfl (Ev.bind hb ?_)
  by_cases c : b = true
  · have hu := hu c
    refine Ev.pos c (Ev.step ?_)
    simp only [spec_Failing.j0]
    by_cases d : B.length ≤ 2000
    · rw [if_pos ⟨c, d⟩]
      refine Ev.neg (by simp; omega) ?_
      have key := downTo (us.length + 1) (fun n => ∀ S : List ByteArray, S.length ≤ n * us.length → failIt us B (us.length + 1 - n) S = failed us B → Ev (fun k => spec_Failing.l0 k us B S (n : Int)) (failed us B)) ?_ ?_ 0 (by omega)
      · exact key [] (by simp) rfl
      · intro S hS h
        rw [Nat.sub_self] at h
        refine Ev.step ?_
        simp only [spec_Failing.l0]
        rw [← h]
        exact Ev.neg (by omega) Ev.pure
      · intro n hn ih S hS h
        have hl := hu.len
        have h2 : n * us.length ≤ 101 * 100 := Nat.mul_le_mul (by omega) hl
        have hlen : (passGo us B S us).length ≤ (n + 1) * us.length := by
          have p : ∀ (r : List S55) (S : List ByteArray), (passGo us B S r).length ≤ S.length + r.length := by
            intro r
            induction r with
            | nil => intro S; simp [passGo]
            | cons u r ih =>
              intro S
              have h1 := ih (if badNow us B S u = true then insS S u.f0 else S)
              have h2 := insS_len S u.f0
              unfold passGo
              rw [List.length_cons]
              split at h1
              · rw [if_pos (by assumption)]
                omega
              · rw [if_neg (by assumption)]
                omega
          have := p us S
          rw [Nat.succ_mul]
          omega
        refine Ev.step ?_
        simp only [spec_Failing.l0]
        refine Ev.pos (by omega) (specPass_ev us hu B d (n : Int) _ S (by omega) ?_)
        rw [upN n (by omega)]
        refine ih _ hlen ?_
        rw [← h, show us.length + 1 - n = (us.length + 1 - (n + 1)) + 1 by omega]
        rfl
    · rw [if_neg (fun e => d e.2)]
      exact Ev.pos (by simp; omega) Ev.pure
  · rw [if_neg (fun e => c e.1)]
    refine Ev.neg c (Ev.step ?_)
    simp only [spec_Failing.j0]
    exact Ev.pos trivial Ev.pure
/-! ### The program's run -/
def needGo (us : List S55) (s : ByteArray) : List ByteArray × Bool → List ByteArray → List ByteArray × Bool
  | X, [] => X
  | X, n :: r => needGo us s (if hasU us n = false ∨ hasW X.1 n = true then (X.1 ++ [s], true) else X) r
def roundGo (us : List S55) : List ByteArray × Bool → List S55 → List ByteArray × Bool
  | X, [] => X
  | X, u :: r => roundGo us (if hasW X.1 u.f0 = true then X else needGo us u.f0 X u.f2) r
theorem needGo_len (us : List S55) (s : ByteArray) (l : List ByteArray) : ∀ X : List ByteArray × Bool, (needGo us s X l).1.length ≤ X.1.length + l.length := by
  induction l with
  | nil => intro X; simp [needGo]
  | cons n r ih =>
    intro X
    have := ih (if hasU us n = false ∨ hasW X.1 n = true then (X.1 ++ [s], true) else X)
    unfold needGo
    rw [List.length_cons]
    split at this
    · rw [if_pos (by assumption)]
      simp only [List.length_append, List.length_singleton] at this
      omega
    · rw [if_neg (by assumption)]
      omega
/-- What a unit's needs do. -/
theorem needGo_what (us : List S55) (s : ByteArray) (l : List ByteArray) : ∀ X : List ByteArray × Bool,
    (∀ y ∈ X.1, y ∈ (needGo us s X l).1) ∧ (∀ y ∈ (needGo us s X l).1, y ∈ X.1 ∨ (y = s ∧ ∃ n ∈ l, hasU us n = false ∨ n ∈ X.1)) ∧
    ((needGo us s X l = X ∧ ∀ n ∈ l, hasU us n = true ∧ n ∉ X.1) ∨ ((needGo us s X l).2 = true ∧ s ∈ (needGo us s X l).1 ∧ ∃ n ∈ l, hasU us n = false ∨ n ∈ X.1)) := by
  induction l with
  | nil => intro X; exact ⟨fun y h => h, fun y h => .inl h, .inl ⟨rfl, fun n hn => absurd hn (by simp)⟩⟩
  | cons n r ih =>
    intro X
    by_cases c : hasU us n = false ∨ hasW X.1 n = true
    · obtain ⟨h1, h2, h3⟩ := ih (X.1 ++ [s], true)
      have e : needGo us s X (n :: r) = needGo us s (X.1 ++ [s], true) r := by rw [needGo, if_pos c]
      have hn : hasU us n = false ∨ n ∈ X.1 := c.imp_right (hasW_iff _ _).1
      have hs : s ∈ (needGo us s (X.1 ++ [s], true) r).1 := h1 s (by simp)
      rw [e]
      refine ⟨fun y hy => h1 y (by simp [hy]), fun y hy => ?_, .inr ⟨?_, hs, n, List.mem_cons_self, hn⟩⟩
      · rcases h2 y hy with h | ⟨h, _⟩
        · rcases List.mem_append.1 h with h | h
          · exact .inl h
          · exact .inr ⟨by simpa using h, n, List.mem_cons_self, hn⟩
        · exact .inr ⟨h, n, List.mem_cons_self, hn⟩
      · rcases h3 with ⟨h, _⟩ | ⟨h, _⟩
        · rw [h]
        · exact h
    · obtain ⟨h1, h2, h3⟩ := ih X
      have e : needGo us s X (n :: r) = needGo us s X r := by rw [needGo, if_neg c]
      rw [e]
      refine ⟨h1, fun y hy => ?_, ?_⟩
      · rcases h2 y hy with h | ⟨h, h'⟩
        · exact .inl h
        · obtain ⟨m, hm, q⟩ := h'
          exact .inr ⟨h, m, List.mem_cons_of_mem _ hm, q⟩
      · rcases h3 with ⟨h, h'⟩ | ⟨h, h', m, hm, q⟩
        · refine .inl ⟨h, fun m hm => ?_⟩
          rcases List.mem_cons.1 hm with rfl | hm
          · exact ⟨by simpa using fun e => c (.inl e), fun e => c (.inr ((hasW_iff _ _).2 e))⟩
          · exact h' m hm
        · exact .inr ⟨h, h', m, List.mem_cons_of_mem _ hm, q⟩
theorem roundGo_len (us : List S55) (l : List S55) : (∀ u ∈ l, u.f2.length ≤ 20) → ∀ X : List ByteArray × Bool, (roundGo us X l).1.length ≤ X.1.length + 20 * l.length := by
  induction l with
  | nil => intro _ X; simp [roundGo]
  | cons u r ih =>
    intro h X
    have h1 := ih (fun x hx => h x (List.mem_cons_of_mem _ hx)) (if hasW X.1 u.f0 = true then X else needGo us u.f0 X u.f2)
    have h2 := needGo_len us u.f0 u.f2 X
    have h3 := h u List.mem_cons_self
    unfold roundGo
    rw [List.length_cons]
    split at h1
    · rw [if_pos (by assumption)]
      omega
    · rw [if_neg (by assumption)]
      omega
theorem roundGo_what (us : List S55) (l : List S55) : ∀ X : List ByteArray × Bool, (∀ y ∈ X.1, y ∈ (roundGo us X l).1) ∧
    ((roundGo us X l = X ∧ ∀ u ∈ l, u.f0 ∈ X.1 ∨ ∀ n ∈ u.f2, hasU us n = true ∧ n ∉ X.1) ∨ ((roundGo us X l).2 = true ∧ ∃ u ∈ l, u.f0 ∉ X.1 ∧ u.f0 ∈ (roundGo us X l).1)) := by
  induction l with
  | nil => intro X; exact ⟨fun y h => h, .inl ⟨rfl, fun u hu => absurd hu (by simp)⟩⟩
  | cons u r ih =>
    intro X
    by_cases c : hasW X.1 u.f0 = true
    · have e : roundGo us X (u :: r) = roundGo us X r := by rw [roundGo, if_pos c]
      rw [e]
      obtain ⟨h1, h2⟩ := ih X
      refine ⟨h1, h2.imp (fun ⟨a, b⟩ => ⟨a, fun v hv => ?_⟩) (fun ⟨a, v, hv, b⟩ => ⟨a, v, List.mem_cons_of_mem _ hv, b⟩)⟩
      rcases List.mem_cons.1 hv with rfl | hv
      · exact .inl ((hasW_iff _ _).1 c)
      · exact b v hv
    · have e : roundGo us X (u :: r) = roundGo us (needGo us u.f0 X u.f2) r := by rw [roundGo, if_neg c]
      rw [e]
      obtain ⟨n1, _, n3⟩ := needGo_what us u.f0 u.f2 X
      rcases n3 with ⟨n3, n4⟩ | ⟨n3, n4, _⟩
      · rw [n3]
        obtain ⟨h1, h2⟩ := ih X
        refine ⟨h1, h2.imp (fun ⟨a, b⟩ => ⟨a, fun v hv => ?_⟩) (fun ⟨a, v, hv, b⟩ => ⟨a, v, List.mem_cons_of_mem _ hv, b⟩)⟩
        rcases List.mem_cons.1 hv with rfl | hv
        · exact .inr n4
        · exact b v hv
      · obtain ⟨h1, h2⟩ := ih (needGo us u.f0 X u.f2)
        refine ⟨fun y hy => h1 y (n1 y hy), .inr ⟨?_, u, List.mem_cons_self, fun h => c ((hasW_iff _ _).2 h), h1 _ n4⟩⟩
        rcases h2 with ⟨a, _⟩ | ⟨a, _⟩
        · rw [a]
          exact n3
        · exact a
theorem roundGo_sound (us : List S55) (B : List ByteArray) (l : List S55) : (∀ u ∈ l, u ∈ us) → ∀ X : List ByteArray × Bool, (∀ y ∈ X.1, Bad us B y) → ∀ y ∈ (roundGo us X l).1, Bad us B y := by
  induction l with
  | nil => intro _ X h; exact h
  | cons u r ih =>
    intro hl X h
    unfold roundGo
    refine ih (fun x hx => hl x (List.mem_cons_of_mem _ hx)) _ ?_
    split
    · exact h
    · intro y hy
      obtain ⟨_, n2, _⟩ := needGo_what us u.f0 u.f2 X
      rcases n2 y hy with hy | ⟨rfl, n, hn, q⟩
      · exact h y hy
      · rcases q with q | q
        · exact .miss u n (hl u List.mem_cons_self) hn q
        · exact .dep u n (hl u List.mem_cons_self) hn (h n q)
theorem implNeeds_ev (us : List S55) (hu : us.length ≤ 100) (i : Nat) (hi : i < 1000) (u : S55) (h20 : u.f2.length ≤ 20) (r : List ByteArray) (X : List ByteArray × Bool) (hX : X.1.length ≤ 500000)
    (h : Ev (fun k => impl_Failing.l2 k us (needGo us u.f0 X u.f2).1 (needGo us u.f0 X u.f2).2 us (us.length : Int) ((i + 1 : Nat) : Int)) r) :
    Ev (fun k => impl_Failing.l3 k us X.1 X.2 us (us.length : Int) (i : Int) u.f2 (u.f2.length : Int) 0 u.f0 u.f1 u.f2 u.f3 u.f4) r := by
  have key := downTo u.f2.length (fun j => ∀ X : List ByteArray × Bool, X.1.length ≤ 500000 + j → Ev (fun k => impl_Failing.l2 k us (needGo us u.f0 X (u.f2.drop j)).1 (needGo us u.f0 X (u.f2.drop j)).2 us (us.length : Int) ((i + 1 : Nat) : Int)) r →
    Ev (fun k => impl_Failing.l3 k us X.1 X.2 us (us.length : Int) (i : Int) u.f2 (u.f2.length : Int) (j : Int) u.f0 u.f1 u.f2 u.f3 u.f4) r) ?_ ?_ 0 (by omega)
  · exact key X (by omega) (by simpa using h)
  · intro X hX h
    rw [List.drop_length, needGo] at h
    refine Ev.step ?_
    simp only [impl_Failing.l3, upN i (by omega)]
    exact Ev.neg (by omega) h
  · intro j hj ih X hX h
    rw [List.drop_eq_getElem_cons hj, needGo] at h
    refine Ev.step ?_
    simp only [impl_Failing.l3, rdStr u.f2 j hj, upN j (by omega)]
    obtain ⟨t, _, ht, ha⟩ := find_ev us (by omega) (u.f2[j])
    have hn := isAt_has ha
    refine Ev.pos (by omega) (Ev.pos (by omega) (Ev.pos (by omega) (Ev.bind ht ?_)))
    by_cases c : t < 0
    · rw [if_pos (.inl (hn.1 c))] at h
      exact Ev.pos c (Ev.pos (by omega) (ih (X.1 ++ [u.f0], true) (by simp; omega) h))
    · refine Ev.neg c (Ev.cons rfl ?_)
      by_cases d : hasW X.1 (u.f2[j]) = true
      · rw [if_pos (.inr d)] at h
        exact Ev.pos d (Ev.pos (by omega) (ih (X.1 ++ [u.f0], true) (by simp; omega) h))
      · rw [if_neg (fun e => e.elim (fun e => c (hn.2 e)) d)] at h
        exact Ev.neg d (ih X (by omega) h)
theorem implRound_ev (us : List S55) (hu : UOk us) (r : List ByteArray) (X : List ByteArray × Bool) (hX : X.1.length ≤ 400000)
    (h : Ev (fun k => impl_Failing.l1 k us (roundGo us X us).1 (roundGo us X us).2) r) : Ev (fun k => impl_Failing.l2 k us X.1 X.2 us (us.length : Int) 0) r := by
  have hl := hu.len
  have key := downTo us.length (fun i => ∀ X : List ByteArray × Bool, X.1.length ≤ 400000 + 20 * i → Ev (fun k => impl_Failing.l1 k us (roundGo us X (us.drop i)).1 (roundGo us X (us.drop i)).2) r → Ev (fun k => impl_Failing.l2 k us X.1 X.2 us (us.length : Int) (i : Int)) r) ?_ ?_ 0 (by omega)
  · exact key X (by omega) (by simpa using h)
  · intro X hX h
    rw [List.drop_length, roundGo] at h
    refine Ev.step ?_
    simp only [impl_Failing.l2]
    exact Ev.neg (by omega) h
  · intro i hi ih X hX h
    rw [List.drop_eq_getElem_cons hi, roundGo] at h
    refine Ev.step ?_
    simp only [impl_Failing.l2, rd55 us i hi, upN i (by omega)]
    refine Ev.pos (by omega) (Ev.pos (by omega) (Ev.pos (by omega) (Ev.cons rfl ?_)))
    by_cases c : hasW X.1 (us[i]).f0 = true
    · rw [if_pos c] at h
      exact Ev.pos c (ih X (by omega) h)
    · rw [if_neg c] at h
      have h20 := (hu.cnt _ (List.getElem_mem hi)).2
      have h2 := needGo_len us (us[i]).f0 (us[i]).f2 X
      exact Ev.neg c (implNeeds_ev us hl i (by omega) (us[i]) h20 r X (by omega) (ih _ (by omega) h))
/-- What the set of the words that failed is put in order as. -/
theorem sorted_failed {us : List S55} {B X : List ByteArray} (hs : ∀ s ∈ X, Bad us B s) (hc : ∀ s, Bad us B s → s ∈ X) (hl : X.length ≤ 1000000) (hz : ∀ u ∈ us, u.f0.size ≤ 9223372036854775807) : impl_sortedSet.f X = some (failed us B) := by
  unfold impl_sortedSet.f
  rw [if_pos]
  · congr 1
    refine asc_uniq (sortW_asc X [] List.Pairwise.nil) (failed_asc us B) (fun s => ?_)
    rw [sortW_mem, failed_iff]
    exact ⟨fun h => h.elim (fun h => absurd h (by simp)) (hs s), fun h => .inr (hc s h)⟩
  · refine ⟨hl, List.all_eq_true.2 fun s h => decide_eq_true ?_⟩
    obtain ⟨u, hu, rfl⟩ := List.mem_map.1 (hs s h).name
    exact hz u hu
theorem implLoop_ev (us : List S55) (hu : UOk us) (hz : ∀ u ∈ us, u.f0.size ≤ 9223372036854775807) (B : List ByteArray) : ∀ (n : Nat) (X : List ByteArray), leftU us X ≤ n → X.length + 2000 * n ≤ 202000 → (∀ s ∈ X, Bad us B s) → (∀ u ∈ us, u.f0 ∈ B → u.f0 ∈ X) → Ev (fun k => impl_Failing.l1 k us X true) (failed us B) := by
  have hl := hu.len
  intro n
  induction n with
  | zero =>
    intro X h0 h1 hs hb
    refine Ev.step ?_
    simp only [impl_Failing.l1]
    refine Ev.pos trivial (implRound_ev us hu _ (X, false) (by simp only; omega) ?_)
    obtain ⟨w1, w2⟩ := roundGo_what us us (X, false)
    rcases w2 with ⟨w2, w3⟩ | ⟨_, u, hu', w3, w4⟩
    · rw [w2]
      have hc : ∀ s, Bad us B s → s ∈ X := by
        intro s h
        induction h with
        | brk u hu hb' => exact hb u hu hb'
        | miss u n hu hn hm => exact (w3 u hu).elim id (fun h => absurd (h n hn).1 (by rw [hm]; simp))
        | dep u n hu hn _ ih => exact (w3 u hu).elim id (fun h => absurd ih (h n hn).2)
      refine Ev.step ?_
      simp only [impl_Failing.l1]
      exact Ev.neg (by simp) (Ev.cons (sorted_failed hs hc (by omega) hz) Ev.pure)
    · have := leftU_lt w1 hu' w3 w4
      simp only at this
      omega
  | succ n ih =>
    intro X h0 h1 hs hb
    refine Ev.step ?_
    simp only [impl_Failing.l1]
    refine Ev.pos trivial (implRound_ev us hu _ (X, false) (by simp only; omega) ?_)
    obtain ⟨w1, w2⟩ := roundGo_what us us (X, false)
    rcases w2 with ⟨w2, w3⟩ | ⟨w2, u, hu', w3, w4⟩
    · rw [w2]
      have hc : ∀ s, Bad us B s → s ∈ X := by
        intro s h
        induction h with
        | brk u hu hb' => exact hb u hu hb'
        | miss u n hu hn hm => exact (w3 u hu).elim id (fun h => absurd (h n hn).1 (by rw [hm]; simp))
        | dep u n hu hn _ ih => exact (w3 u hu).elim id (fun h => absurd ih (h n hn).2)
      refine Ev.step ?_
      simp only [impl_Failing.l1]
      exact Ev.neg (by simp) (Ev.cons (sorted_failed hs hc (by omega) hz) Ev.pure)
    · rw [w2]
      have h3 := leftU_lt w1 hu' w3 w4
      have h4 := roundGo_len us us (fun u hu' => (hu.cnt u hu').2) (X, false)
      simp only at h3 h4
      exact ih _ (by omega) (by omega) (roundGo_sound us B us (fun _ h => h) (X, false) hs) (fun u hu hb' => w1 _ (hb u hu hb'))
theorem implFail_ev (us : List S55) (B : List ByteArray) (b : Bool) (hb : Ev (fun k => impl_UnitsOk.f k us) b) (hz : ∀ u ∈ us, u.f0.size ≤ 9223372036854775807 ∧ ∀ s ∈ u.f2, s.size ≤ 9223372036854775807) (hzB : ∀ s ∈ B, s.size ≤ 9223372036854775807) :
    Ev (fun k => impl_Failing.f k us B) (if b = true ∧ B.length ≤ 2000 then failed us B else []) := by
  unfold impl_Failing.f
  refine Ev.pos ⟨List.all_eq_true.2 fun u hu => ?_, List.all_eq_true.2 fun s hs => decide_eq_true (hzB s hs)⟩ (Ev.bind hb ?_)
  · rw [Bool.and_eq_true]
    exact ⟨decide_eq_true (hz u hu).1, List.all_eq_true.2 fun s hs => decide_eq_true ((hz u hu).2 s hs)⟩
  by_cases c : b = true
  · subst c
    have hu := UOk_of hb
    have hl := hu.len
    refine Ev.pos rfl (Ev.step ?_)
    simp only [impl_Failing.j0]
    by_cases d : B.length ≤ 2000
    · rw [if_pos ⟨by trivial, d⟩]
      refine Ev.neg (by simp; omega) ?_
      have key := downTo B.length (fun i => ∀ X : List ByteArray, X.length ≤ i → (∀ s ∈ X, Bad us B s) → (∀ u ∈ us, u.f0 ∈ B.take i → u.f0 ∈ X) → Ev (fun k => impl_Failing.l0 k us X B (B.length : Int) (i : Int)) (failed us B)) ?_ ?_ 0 (by omega)
      · exact key [] (by simp) (fun _ h => absurd h (by simp)) (fun _ _ h => absurd h (by simp))
      · intro X hX hs hb'
        rw [List.take_length] at hb'
        refine Ev.step ?_
        simp only [impl_Failing.l0]
        have := leftU_le us X
        exact Ev.neg (by omega) (implLoop_ev us hu (fun u h => (hz u h).1) B us.length X this (by omega) hs hb')
      · intro i hi ih X hX hs hb'
        refine Ev.step ?_
        simp only [impl_Failing.l0, rdStr B i hi, upN i (by omega)]
        obtain ⟨t, _, ht, ha⟩ := find_ev us (by omega) (B[i])
        refine Ev.pos (by omega) (Ev.pos (by omega) (Ev.pos (by omega) (Ev.bind ht ?_)))
        by_cases c : t < 0
        · refine Ev.neg (by omega) (ih X (by omega) hs fun u hu h => ?_)
          rw [← List.take_append_getElem hi] at h
          rcases List.mem_append.1 h with h | h
          · exact hb' u hu h
          · have e : u.f0 = B[i] := by simpa using h
            exact absurd (List.mem_map.2 ⟨u, hu, e⟩) ((isAt_neg ha).1 c)
        · have hn : B[i] ∈ namesU us := Classical.byContradiction fun e => c ((isAt_neg ha).2 e)
          obtain ⟨v, hv, hve⟩ := List.mem_map.1 hn
          refine Ev.pos (by omega) (Ev.pos (by omega) (ih _ (by simp; omega) (fun s h => ?_) fun u hu h => ?_))
          · rcases List.mem_append.1 h with h | h
            · exact hs s h
            · have e : s = B[i] := by simpa using h
              rw [e, ← hve]
              exact .brk v hv (by rw [hve]; exact List.getElem_mem hi)
          · rw [← List.take_append_getElem hi] at h
            rcases List.mem_append.1 h with h | h
            · exact List.mem_append.2 (.inl (hb' u hu h))
            · exact List.mem_append.2 (.inr h)
    · rw [if_neg (fun e => d e.2)]
      exact Ev.pos (by simp; omega) Ev.pure
  · rw [if_neg (fun e => c e.1)]
    refine Ev.neg c (Ev.step ?_)
    simp only [impl_Failing.j0]
    exact Ev.pos trivial Ev.pure

-- Draw1
theorem and255 (x : Int) : 0 ≤ Go.bits .and .i64 x 255 ∧ Go.bits .and .i64 x 255 ≤ 255 := by
  unfold Go.bits
  have h : ((BitVec.ofInt IntKind.i64.bits x) &&& (BitVec.ofInt IntKind.i64.bits 255)).toNat ≤ 255 := by
    rw [BitVec.toNat_and]
    exact Nat.le_trans Nat.and_le_right (by decide)
  simp only []
  rw [i64w _ (by omega) (by omega)]
  omega
theorem l1New_f (l : List Int) (hl : l.length ≤ 1048576) : ∃ h, ∀ k, l.length < k → spec_l1New.f k l = some (l, 0, h) := by
  have key : ∀ (d : Nat) (h i : Int), 0 ≤ i → i ≤ l.length → (l.length : Int) - i = d → ∃ h', ∀ k, d < k → spec_l1New.l0 k l h i = some (l, 0, h') := by
    intro d
    induction d with
    | zero =>
      intro h i h0 h1 hd
      refine ⟨h, fun k hk => ?_⟩
      obtain ⟨k, rfl⟩ : ∃ m, k = m + 1 := ⟨k - 1, by omega⟩
      simp only [spec_l1New.l0]; rw [if_neg (by omega)]
    | succ d ih =>
      intro h i h0 h1 hd
      obtain ⟨h', hh⟩ := ih (Go.bits .and .i64 (wrap64 ((wrap64 ((wrap64 (h * 139)) + (wrap64 (rd l i)))) + 13)) 1073741823) (i + 1) (by omega) (by omega) (by omega)
      refine ⟨h', fun k hk => ?_⟩
      obtain ⟨k, rfl⟩ : ∃ m, k = m + 1 := ⟨k - 1, by omega⟩
      simp only [spec_l1New.l0]; rw [if_pos (by omega), if_pos h0, up1 i h0 (by omega)]
      exact hh k (by omega)
  exact key l.length (wrap64 (57731 + (l.length : Int))) 0 (by omega) (by omega) (by omega)
theorem l1Byte_f (l : List Int) (hl : l.length ≤ 1048576) (i h : Int) (h0 : 0 ≤ i) (h1 : i ≤ l.length) : ∃ b i' h' : Int, 0 ≤ b ∧ b ≤ 255 ∧ 0 ≤ i' ∧ i' ≤ l.length ∧ spec_l1Byte.f l i h = some (b, i', h') := by
  unfold spec_l1Byte.f
  by_cases hc : i < (l.length : Int)
  · rw [if_pos hc, if_pos h0, up1 i h0 (by omega)]
    exact ⟨_, _, _, (and255 _).1, (and255 _).2, by omega, by omega, rfl⟩
  · rw [if_neg hc]
    exact ⟨_, _, _, (and255 _).1, (and255 _).2, h0, h1, rfl⟩
theorem l1Below_f (l : List Int) (hl : l.length ≤ 1048576) (i h n : Int) (h0 : 0 ≤ i) (h1 : i ≤ l.length) : ∃ b i' h' : Int, 0 ≤ b ∧ (0 < n → b < n) ∧ (n ≤ 0 → b = 0) ∧ 0 ≤ i' ∧ i' ≤ l.length ∧ spec_l1Below.f l i h n = some (b, i', h') := by
  unfold spec_l1Below.f
  by_cases hn : n ≤ 0
  · rw [if_pos hn]; exact ⟨0, i, h, by omega, by omega, fun _ => rfl, h0, h1, rfl⟩
  · rw [if_neg hn]
    obtain ⟨b1, i1, g1, a0, a1, c0, c1, e1⟩ := l1Byte_f l hl i h h0 h1
    rw [e1]
    simp only [Option.bind_some]
    by_cases h256 : n ≤ 256
    · rw [if_pos h256, if_neg (by omega), Int.tmod_eq_emod_of_nonneg a0]
      exact ⟨_, _, _, Int.emod_nonneg _ (by omega), fun hp => Int.emod_lt_of_pos _ hp, by omega, c0, c1, rfl⟩
    · rw [if_neg h256]
      obtain ⟨b2, i2, g2, a2, a3, c2, c3, e2⟩ := l1Byte_f l hl i1 g1 c0 c1
      rw [e2]
      simp only [Option.bind_some]
      obtain ⟨b3, i3, g3, a4, a5, c4, c5, e3⟩ := l1Byte_f l hl i2 g2 c2 c3
      rw [e3]
      simp only [Option.bind_some]
      obtain ⟨b4, i4, g4, a6, a7, c6, c7, e4⟩ := l1Byte_f l hl i3 g3 c4 c5
      rw [e4]
      simp only [Option.bind_some]
      rw [if_neg (by omega), w64 (b1 * 16777216) (by omega) (by omega), w64 (b2 * 65536) (by omega) (by omega), w64 (b3 * 256) (by omega) (by omega), w64 (b1 * 16777216 + b2 * 65536) (by omega) (by omega),
        w64 (b1 * 16777216 + b2 * 65536 + b3 * 256) (by omega) (by omega), w64 (b1 * 16777216 + b2 * 65536 + b3 * 256 + b4) (by omega) (by omega), Int.tmod_eq_emod_of_nonneg (by omega)]
      exact ⟨_, _, _, Int.emod_nonneg _ (by omega), fun hp => Int.emod_lt_of_pos _ hp, by omega, c6, c7, rfl⟩
theorem l1Once_f (l : List Int) (hl : l.length ≤ 1048576) (i h n : Int) (h0 : 0 ≤ i) (h1 : i ≤ l.length) : ∃ (b : Bool) (i' h' : Int), 0 ≤ i' ∧ i' ≤ l.length ∧ spec_l1Once.f l i h n = some (b, i', h') := by
  unfold spec_l1Once.f
  obtain ⟨b1, i1, g1, _, _, _, c0, c1, e1⟩ := l1Below_f l hl i h n h0 h1
  rw [e1]
  exact ⟨_, _, _, c0, c1, rfl⟩

-- DrawU
/-- With fuel enough the run answers something that is P. -/
def EvP {α : Type} (P : α → Prop) (f : Nat → Option α) : Prop := ∃ r, P r ∧ Ev f r
theorem EvP.step {α : Type} {P : α → Prop} {f : Nat → Option α} (h : EvP P (fun k => f (k + 1))) : EvP P f := h.imp fun _ h => ⟨h.1, Ev.step h.2⟩
theorem EvP.pos {α : Type} {P : α → Prop} {c : Prop} [Decidable c] {f g : Nat → Option α} (hc : c) (h : EvP P f) : EvP P (fun k => if c then f k else g k) := h.imp fun _ h => ⟨h.1, Ev.pos hc h.2⟩
theorem EvP.neg {α : Type} {P : α → Prop} {c : Prop} [Decidable c] {f g : Nat → Option α} (hc : ¬ c) (h : EvP P g) : EvP P (fun k => if c then f k else g k) := h.imp fun _ h => ⟨h.1, Ev.neg hc h.2⟩
theorem EvP.cons {α β : Type} {P : β → Prop} {x : Option α} {g : Nat → α → Option β} {a : α} (h : x = some a) (h2 : EvP P (fun k => g k a)) : EvP P (fun k => x.bind (g k)) := h2.imp fun _ h2 => ⟨h2.1, Ev.cons h h2.2⟩
theorem EvP.bind {α β : Type} {P : β → Prop} {f : Nat → Option α} {g : Nat → α → Option β} {a : α} (h : Ev f a) (h2 : EvP P (fun k => g k a)) : EvP P (fun k => (f k).bind (g k)) := h2.imp fun _ h2 => ⟨h2.1, Ev.bind h h2.2⟩
theorem EvP.pure {α : Type} {P : α → Prop} {r : α} (h : P r) : EvP P (fun _ => some r) := ⟨r, h, Ev.pure⟩
/-- What a drawn unit is. -/
def DU (u : S55) : Prop := u.f0.size ≤ 1000 ∧ u.f1.length ≤ 1000 ∧ u.f2.length ≤ 1000 ∧ ∀ s ∈ u.f2, s.size ≤ 1000
/-- What a draw of units leaves. -/
def DQ (l : List Int) (r : List S55 × Int × Int) : Prop := r.1.length ≤ 6 ∧ (∀ u ∈ r.1, DU u) ∧ 0 ≤ r.2.1 ∧ r.2.1 ≤ l.length
def AL : List ByteArray := [(⟨#[97]⟩ : ByteArray), (⟨#[98]⟩ : ByteArray), (⟨#[99]⟩ : ByteArray), (⟨#[100]⟩ : ByteArray), (⟨#[101]⟩ : ByteArray), (⟨#[102]⟩ : ByteArray)]
theorem AL_len : (AL.length : Int) = 6 := rfl
theorem AL_rd (i : Nat) (h : i < 6) : (rdOf ByteArray.empty AL (i : Int)).size ≤ 1000 := by
  rw [rdStr AL i h]
  have : ∀ s ∈ AL, s.size ≤ 1000 := by
    intro s hs
    simp only [AL, List.mem_cons, List.not_mem_nil, or_false] at hs
    rcases hs with rfl | rfl | rfl | rfl | rfl | rfl
    all_goals decide
  exact this _ (List.getElem_mem _)
theorem l2Int_1 (b : Int) (h0 : 0 ≤ b) (h1 : b < 2) : ∃ s : ByteArray, s.size ≤ 1000 ∧ Ev (fun k => spec_l2Int.f k b) s := by
  refine ⟨(strOfNums [(wrap64 (48 + b)) % 256]) ++ (⟨#[]⟩ : ByteArray), ?_, ?_⟩
  · rw [ByteArray.size_append, strOfNums_size]
    show 1 + 0 ≤ 1000
    omega
  · unfold spec_l2Int.f
    refine Ev.step ?_
    simp only [spec_l2Int.l0]
    refine Ev.neg (by omega) (Ev.cons rfl (Ev.pos ?_ Ev.pure))
    rw [strOfNums_size]
    show 1 + 0 ≤ 9223372036854775807
    omega
theorem DQ_set {l : List Int} {us : List S55} {n : Nat} {v : S55} {i h : Int} (hn : us.length ≤ 6) (hu : ∀ u ∈ us, DU u) (hv : DU v) (h0 : 0 ≤ i) (h1 : i ≤ l.length) : DQ l (us.set n v, i, h) := by
  refine ⟨by simpa using hn, fun u hu' => ?_, h0, h1⟩
  rcases List.mem_or_eq_of_mem_set hu' with hu' | rfl
  · exact hu u hu'
  · exact hv
def NQ (l : List Int) (r : List ByteArray × Int × Int) : Prop := r.1.length ≤ 7 ∧ (∀ s ∈ r.1, s.size ≤ 1000) ∧ 0 ≤ r.2.1 ∧ r.2.1 ≤ l.length
theorem l18Last_f (l : List Int) (hl : l.length ≤ 1048576) (us : List S55) (hn : us.length ≤ 6) (hu : ∀ u ∈ us, DU u) (b : Bool) (hb : b = true → 0 < us.length) (i h : Int) (h0 : 0 ≤ i) (h1 : i ≤ l.length) : EvP (DQ l) (fun k => spec_l18Draw.j4 k us b l i h) := by
  refine EvP.step ?_
  simp only [spec_l18Draw.j4]
  by_cases c : b = true
  · obtain ⟨t, i1, g1, t0, t1, _, c0, c1, e1⟩ := l1Below_f l hl i h (us.length : Int) h0 h1
    have t1' := t1 (by have := hb c; omega)
    obtain ⟨n, rfl⟩ : ∃ n : Nat, t = (n : Int) := ⟨t.toNat, by omega⟩
    obtain ⟨d, i2, g2, d0, d1, _, c2, c3, e2⟩ := l1Below_f l hl i1 g1 4 c0 c1
    have hr := rd55 us n (by omega)
    have hd : DU (rd_T55 us (n : Int)) := by
      rw [hr]
      exact hu _ (List.getElem_mem _)
    obtain ⟨a0, a1, a2, a3⟩ := hd
    refine EvP.pos c (EvP.cons e1 (EvP.pos t0 (EvP.pos t1' (EvP.cons e2 ?_))))
    by_cases q0 : d = 0
    · exact EvP.pos q0 (EvP.pure (DQ_set hn hu ⟨by show (1 : Nat) ≤ 1000; omega, a1, a2, a3⟩ c2 c3))
    refine EvP.neg q0 ?_
    by_cases q1 : d = 1
    · exact EvP.pos q1 (EvP.pure (DQ_set hn hu ⟨a0, by show (2 : Nat) ≤ 1000; omega, a2, a3⟩ c2 c3))
    refine EvP.neg q1 ?_
    by_cases q2 : d = 2
    · exact EvP.pos q2 (EvP.pure (DQ_set hn hu ⟨a0, a1, by show (1 : Nat) ≤ 1000; omega, fun s hs => by
        rw [List.mem_singleton.1 hs]
        decide⟩ c2 c3))
    refine EvP.neg q2 ?_
    by_cases q3 : d = 3
    · obtain ⟨e, i3, g3, f0, f1, _, c4, c5, e3⟩ := l1Below_f l hl i2 g2 2 c2 c3
      have f1' := f1 (by omega)
      have hw : wrap64 (4000 + e) = 4000 + e := w64 _ (by omega) (by omega)
      refine EvP.pos q3 (EvP.cons e3 ?_)
      simp only [hw]
      exact EvP.pos (by omega) (EvP.pos (by omega) (EvP.pure (DQ_set hn hu ⟨a0, a1, a2, a3⟩ c4 c5)))
    exact EvP.neg q3 (EvP.pure ⟨hn, hu, c2, c3⟩)
  · exact EvP.neg c (EvP.pure ⟨hn, hu, h0, h1⟩)
theorem l18Draw_f (l : List Int) (hl : l.length ≤ 1048576) (i h : Int) (h0 : 0 ≤ i) (h1 : i ≤ l.length) : EvP (DQ l) (fun k => spec_l18Draw.f k l i h) := by
  unfold spec_l18Draw.f
  have outer := downTo 6 (fun n => ∀ (us : List S55) (i h : Int), us.length ≤ n → (∀ u ∈ us, DU u) → 0 ≤ i → i ≤ l.length → EvP (DQ l) (fun k => spec_l18Draw.l0 k us AL (n : Int) l i h)) ?_ ?_ 0 (by omega)
  · exact outer [] i h (by simp) (by simp) h0 h1
  · intro us i h hn hu h0 h1
    obtain ⟨b, i1, g1, c0, c1, e1⟩ := l1Once_f l hl i h 14 h0 h1
    refine EvP.step ?_
    simp only [spec_l18Draw.l0]
    refine EvP.neg (by rw [AL_len]; omega) (EvP.cons e1 ?_)
    by_cases c : b = true
    · exact EvP.pos c (l18Last_f l hl us hn hu _ (fun e => by have := of_decide_eq_true e; omega) i1 g1 c0 c1)
    · exact EvP.neg c (l18Last_f l hl us hn hu _ (fun e => by cases e) i1 g1 c0 c1)
  · intro n hn ih us i h hnu hu h0 h1
    obtain ⟨b, i1, g1, c0, c1, e1⟩ := l1Once_f l hl i h 4 h0 h1
    refine EvP.step ?_
    simp only [spec_l18Draw.l0, upN n (by omega)]
    refine EvP.pos (by rw [AL_len]; omega) (EvP.cons e1 ?_)
    by_cases c : b = true
    · exact EvP.pos c (ih us i1 g1 (by omega) hu c0 c1)
    refine EvP.neg c (EvP.pos (by omega) ?_)
    obtain ⟨x, i2, g2, x0, x1, _, c2, c3, e2⟩ := l1Below_f l hl i1 g1 2 c0 c1
    obtain ⟨s, s0, s1⟩ := l2Int_1 x x0 (x1 (by omega))
    obtain ⟨kp, i3, g3, c4, c5, e3⟩ := l1Once_f l hl i2 g2 4 c2 c3
    refine EvP.cons e2 (EvP.bind s1 (EvP.pos (by omega) (EvP.cons e3 ?_)))
    have hnm := AL_rd n hn
    show EvP (DQ l) (fun k => spec_l18Draw.l1 k us AL (n : Int) 0 l i3 g3 (rdOf ByteArray.empty AL (n : Int)) [] [] ((⟨#[114, 117, 110, 32]⟩ : ByteArray) ++ s) kp)
    generalize ((⟨#[114, 117, 110, 32]⟩ : ByteArray) ++ s) = ex
    generalize rdOf ByteArray.empty AL (n : Int) = nm at hnm
    clear s0 s1 e1 e2 e3
    have inner := downTo 6 (fun m => ∀ (f1 f2 : List ByteArray) (i h : Int), f1.length ≤ m → f2.length ≤ m → (∀ s ∈ f2, s.size ≤ 1000) → 0 ≤ i → i ≤ l.length → EvP (DQ l) (fun k => spec_l18Draw.l1 k us AL (n : Int) (m : Int) l i h nm f1 f2 ex kp)) ?_ ?_ 0 (by omega)
    · exact inner [] [] i3 g3 (by simp) (by simp) (by simp) c4 c5
    · intro f1 f2 i h a1 a2 a3 h0 h1
      refine EvP.step ?_
      simp only [spec_l18Draw.l1, upN n (by omega)]
      refine EvP.neg (by rw [AL_len]; omega) (EvP.pos (by omega) (ih _ i h (by simp; omega) ?_ h0 h1))
      intro u hu'
      rcases List.mem_append.1 hu' with hu' | hu'
      · exact hu u hu'
      · rw [List.mem_singleton.1 hu']
        exact ⟨hnm, by show f1.length ≤ 1000; omega, by show f2.length ≤ 1000; omega, a3⟩
    · intro m hm ih2
      have hmm := AL_rd m hm
      have third : ∀ (f1 f2 : List ByteArray) (i h : Int), f1.length ≤ m + 1 → f2.length ≤ m → (∀ s ∈ f2, s.size ≤ 1000) → 0 ≤ i → i ≤ l.length → EvP (DQ l) (fun k => spec_l18Draw.j3 k us AL (n : Int) (m : Int) l i h nm f1 f2 ex kp) := by
        intro f1 f2 i h a1 a2 a3 h0 h1
        obtain ⟨b, i1, g1, c0, c1, e1⟩ := l1Once_f l hl i h 6 h0 h1
        have put : ∀ (i h : Int), 0 ≤ i → i ≤ l.length → EvP (DQ l) (fun k => spec_l18Draw.l1 k us AL (n : Int) ((m + 1 : Nat) : Int) l i h nm f1 (f2 ++ [rdOf ByteArray.empty AL (m : Int)]) ex kp) := fun i h h0 h1 => ih2 _ _ i h a1 (by simp; omega) (fun s hs => by
          rcases List.mem_append.1 hs with hs | hs
          · exact a3 s hs
          · rw [List.mem_singleton.1 hs]
            exact hmm) h0 h1
        refine EvP.step ?_
        simp only [spec_l18Draw.j3, upN m (by omega)]
        refine EvP.cons e1 ?_
        by_cases c : b = true
        · refine EvP.pos c ?_
          by_cases d : (m : Int) < (n : Int)
          · exact EvP.pos d (EvP.pos (by omega) (EvP.pos (by rw [AL_len]; omega) (EvP.pos (by omega) (put i1 g1 c0 c1))))
          · obtain ⟨b2, i2, g2, c2, c3, e2⟩ := l1Once_f l hl i1 g1 6 c0 c1
            refine EvP.neg d (EvP.cons e2 ?_)
            by_cases e : b2 = true
            · exact EvP.pos e (EvP.pos (by omega) (EvP.pos (by rw [AL_len]; omega) (EvP.pos (by omega) (put i2 g2 c2 c3))))
            · exact EvP.neg e (ih2 _ _ i2 g2 a1 (by omega) a3 c2 c3)
        · exact EvP.neg c (ih2 _ _ i1 g1 a1 (by omega) a3 c0 c1)
      have second : ∀ (x : Bool) (f1 f2 : List ByteArray) (i h : Int), f1.length ≤ m → f2.length ≤ m → (∀ s ∈ f2, s.size ≤ 1000) → 0 ≤ i → i ≤ l.length → EvP (DQ l) (fun k => spec_l18Draw.j2 k us AL (n : Int) (m : Int) x l i h nm f1 f2 ex kp) := by
        intro x f1 f2 i h a1 a2 a3 h0 h1
        refine EvP.step ?_
        simp only [spec_l18Draw.j2]
        by_cases c : x = true
        · exact EvP.pos c (EvP.pos (by omega) (EvP.pos (by rw [AL_len]; omega) (EvP.pos (by omega) (third _ f2 i h (by simp; omega) a2 a3 h0 h1))))
        · exact EvP.neg c (third f1 f2 i h (by omega) a2 a3 h0 h1)
      intro f1 f2 i h a1 a2 a3 h0 h1
      obtain ⟨b, i1, g1, c0, c1, e1⟩ := l1Once_f l hl i h 5 h0 h1
      refine EvP.step ?_
      simp only [spec_l18Draw.l1]
      refine EvP.pos (by rw [AL_len]; omega) (EvP.cons e1 ?_)
      by_cases c : b = true
      · refine EvP.pos c ?_
        by_cases d : (m : Int) < (n : Int)
        · exact EvP.pos d (second true f1 f2 i1 g1 a1 a2 a3 c0 c1)
        · obtain ⟨b2, i2, g2, c2, c3, e2⟩ := l1Once_f l hl i1 g1 5 c0 c1
          exact EvP.neg d (EvP.cons e2 (second b2 f1 f2 i2 g2 a1 a2 a3 c2 c3))
      · exact EvP.neg c (second false f1 f2 i1 g1 a1 a2 a3 c0 c1)
theorem l18Names_f (l : List Int) (hl : l.length ≤ 1048576) (i h : Int) (h0 : 0 ≤ i) (h1 : i ≤ l.length) : EvP (NQ l) (fun k => spec_l18DrawNames.f k l i h) := by
  unfold spec_l18DrawNames.f
  have hA : ∀ s ∈ [(⟨#[97]⟩ : ByteArray), (⟨#[98]⟩ : ByteArray), (⟨#[99]⟩ : ByteArray), (⟨#[100]⟩ : ByteArray), (⟨#[101]⟩ : ByteArray), (⟨#[102]⟩ : ByteArray), (⟨#[122, 122]⟩ : ByteArray)], s.size ≤ 1000 := by
    intro s hs
    simp only [List.mem_cons, List.not_mem_nil, or_false] at hs
    rcases hs with rfl | rfl | rfl | rfl | rfl | rfl | rfl
    all_goals decide
  have hL : [(⟨#[97]⟩ : ByteArray), (⟨#[98]⟩ : ByteArray), (⟨#[99]⟩ : ByteArray), (⟨#[100]⟩ : ByteArray), (⟨#[101]⟩ : ByteArray), (⟨#[102]⟩ : ByteArray), (⟨#[122, 122]⟩ : ByteArray)].length = 7 := rfl
  generalize [(⟨#[97]⟩ : ByteArray), (⟨#[98]⟩ : ByteArray), (⟨#[99]⟩ : ByteArray), (⟨#[100]⟩ : ByteArray), (⟨#[101]⟩ : ByteArray), (⟨#[102]⟩ : ByteArray), (⟨#[122, 122]⟩ : ByteArray)] = A at hA hL
  have key := downTo 7 (fun n => ∀ (us : List ByteArray) (i h : Int), us.length ≤ n → (∀ s ∈ us, s.size ≤ 1000) → 0 ≤ i → i ≤ l.length → EvP (NQ l) (fun k => spec_l18DrawNames.l0 k us A (n : Int) l i h)) ?_ ?_ 0 (by omega)
  · exact key [] i h (by simp) (by simp) h0 h1
  · intro us i h hn hu h0 h1
    refine EvP.step ?_
    simp only [spec_l18DrawNames.l0]
    exact EvP.neg (by omega) (EvP.pure ⟨hn, hu, h0, h1⟩)
  · intro n hn ih us i h hnu hu h0 h1
    obtain ⟨b, i1, g1, c0, c1, e1⟩ := l1Once_f l hl i h 3 h0 h1
    refine EvP.step ?_
    simp only [spec_l18DrawNames.l0, upN n (by omega), rdStr A n (by omega)]
    refine EvP.pos (by omega) (EvP.cons e1 ?_)
    by_cases c : b = true
    · refine EvP.pos c (EvP.pos (by omega) (EvP.pos (by omega) (ih _ i1 g1 (by simp; omega) (fun s hs => ?_) c0 c1)))
      rcases List.mem_append.1 hs with hs | hs
      · exact hu s hs
      · rw [List.mem_singleton.1 hs]
        exact hA _ (List.getElem_mem _)
    · exact EvP.neg c (ih us i1 g1 (by omega) hu c0 c1)

theorem DrawFailing_f (l : List Int) (hl : l.length ≤ 1048576) : ∃ (us : List S55) (B : List ByteArray), us.length ≤ 6 ∧ (∀ u ∈ us, DU u) ∧ B.length ≤ 7 ∧ (∀ s ∈ B, s.size ≤ 1000) ∧ Ev (fun k => spec_DrawFailing.f k l) (us, B) := by
  obtain ⟨g0, e0⟩ := l1New_f l hl
  obtain ⟨⟨us, i1, g1⟩, ⟨a0, a1, c0, c1⟩, e1⟩ := l18Draw_f l hl 0 g0 (by omega) (by omega)
  obtain ⟨⟨B, i2, g2⟩, ⟨b0, b1, _, _⟩, e2⟩ := l18Names_f l hl i1 g1 c0 c1
  refine ⟨us, B, a0, a1, b0, b1, ?_⟩
  unfold spec_DrawFailing.f
  exact Ev.bind (Ev.of (l.length + 1) (fun k hk => e0 k (by omega))) (Ev.bind e1 (Ev.bind e2 Ev.pure))
theorem lawHas_ev (l : List ByteArray) (s : ByteArray) (hl : l.length ≤ 1000000000) : Ev (fun k => laws_has.f k l s) (hasW l s) := by
  unfold laws_has.f
  have key := downTo l.length (fun i => Ev (fun k => laws_has.l0 k l s (i : Int)) (hasW (l.drop i) s)) ?_ ?_ 0 (by omega)
  · simpa using key
  · refine Ev.step ?_
    simp only [laws_has.l0, List.drop_length]
    exact Ev.neg (by omega) Ev.pure
  · intro i hi ih
    refine Ev.step ?_
    simp only [laws_has.l0, rdStr l i hi, upN i (by omega)]
    rw [List.drop_eq_getElem_cons hi]
    refine Ev.pos (by omega) (Ev.pos (by omega) ?_)
    by_cases c : (l[i]).toList = s.toList
    · have e : hasW (l[i] :: l.drop (i + 1)) s = true := by
        unfold hasW
        rw [List.any_cons, decide_eq_true c, Bool.true_or]
      rw [e]
      exact Ev.pos c Ev.pure
    · have e : hasW (l[i] :: l.drop (i + 1)) s = hasW (l.drop (i + 1)) s := by
        unfold hasW
        rw [List.any_cons, decide_eq_false c, Bool.false_or]
      rw [e]
      exact Ev.neg c ih
theorem lawUnit_ev (x : List S55) (hx : x.length ≤ 1048576) (s : ByteArray) : ∃ t : Int, Ev (fun k => laws_unit.f k x s) t ∧ isAt x s t := by
  unfold laws_unit.f
  have key := downTo x.length (fun i => ∃ t : Int, Ev (fun k => laws_unit.l0 k x s (i : Int)) t ∧ ((t < 0 ∧ s ∉ namesU (x.drop i)) ∨ ∃ (i : Nat) (h : i < x.length), t = (i : Int) ∧ (x[i]).f0 = s)) ?_ ?_ 0 (by omega)
  · obtain ⟨t, a, c⟩ := key
    exact ⟨t, a, by simpa [isAt] using c⟩
  · refine ⟨-1, Ev.step ?_, .inl ⟨by omega, by simp [namesU]⟩⟩
    simp only [laws_unit.l0]
    exact Ev.neg (by omega) Ev.pure
  · intro i hi ⟨t, a, c⟩
    by_cases d : ((x[i]).f0).toList = s.toList
    · refine ⟨(i : Int), Ev.step ?_, .inr ⟨i, hi, rfl, toList_inj d⟩⟩
      simp only [laws_unit.l0, rd55 x i hi]
      exact Ev.pos (by omega) (Ev.pos (by omega) (Ev.pos d Ev.pure))
    · refine ⟨t, Ev.step ?_, c.imp_left fun e => ⟨e.1, ?_⟩⟩
      · simp only [laws_unit.l0, rd55 x i hi, upN i (by omega)]
        exact Ev.pos (by omega) (Ev.pos (by omega) (Ev.neg d a))
      · rw [List.drop_eq_getElem_cons hi]
        intro h
        rcases List.mem_cons.1 h with h | h
        · exact d (by rw [h])
        · exact e.2 h
/-- Why a unit fails. -/
def whyF (us : List S55) (F : List ByteArray) (n : ByteArray) : Bool := !hasU us n || hasW F n
theorem why_iff {us : List S55} (hu : UOk us) (B : List ByteArray) {u : S55} (hm : u ∈ us) : (hasW B u.f0 || u.f2.any (whyF us (failed us B))) = hasW (failed us B) u.f0 := by
  rw [Bool.eq_iff_iff, Bool.or_eq_true, hasW_iff, hasW_iff, failed_iff]
  constructor
  · rintro (h | h)
    · exact .brk u hm h
    · obtain ⟨n, hn, h⟩ := List.any_eq_true.1 h
      unfold whyF at h
      rw [Bool.or_eq_true] at h
      rcases h with h | h
      · exact .miss u n hm hn (by simpa using h)
      · exact .dep u n hm hn ((failed_iff us B n).1 ((hasW_iff _ _).1 h))
  · intro h
    have inj : ∀ v ∈ us, v.f0 = u.f0 → v = u := by
      intro v hv e
      obtain ⟨i, hi, rfl⟩ := List.getElem_of_mem hv
      obtain ⟨j, hj, rfl⟩ := List.getElem_of_mem hm
      have := hu.inj hi hj e
      subst this
      rfl
    generalize hs : u.f0 = s at h
    cases h with
    | brk v hv hb => exact .inl hb
    | miss v n hv hn hmi =>
      have := inj v hv hs.symm
      subst this
      exact .inr (List.any_eq_true.2 ⟨n, hn, by unfold whyF; rw [hmi]; rfl⟩)
    | dep v n hv hn hb =>
      have := inj v hv hs.symm
      subst this
      exact .inr (List.any_eq_true.2 ⟨n, hn, by unfold whyF; rw [Bool.or_eq_true]; exact .inr ((hasW_iff _ _).2 ((failed_iff us B n).2 hb))⟩)
theorem Bad.more {us : List S55} {B C : List ByteArray} (h : ∀ s ∈ B, s ∈ C) {s : ByteArray} (hb : Bad us B s) : Bad us C s := by
  induction hb with
  | brk u hu hb => exact .brk u hu (h _ hb)
  | miss u n hu hn hm => exact .miss u n hu hn hm
  | dep u n hu hn _ ih => exact .dep u n hu hn ih
theorem okNone : Ev (fun k => impl_UnitsOk.f k []) true := by
  unfold impl_UnitsOk.f
  refine Ev.neg (by simp) (Ev.step ?_)
  simp only [impl_UnitsOk.l0]
  exact Ev.neg (by simp) Ev.pure
theorem FnFailing : laws_FnFailing.Pure := by
  intro l _ _ _
  refine Ev.at ?_
  unfold laws_FnFailing.f
  refine Ev.cons rfl ?_
  by_cases c : decide ((l.length : Int) > 1048576) = true
  · exact Ev.pos c Ev.pure
  have hl : l.length ≤ 1048576 := by
    have := of_decide_eq_false (Bool.eq_false_iff.mpr c)
    omega
  obtain ⟨us, B, u0, u1, b0, b1, e⟩ := DrawFailing_f l hl
  obtain ⟨b, hb1, hb2⟩ := UnitsOk_ev us (by omega) (fun u hu => ⟨by have := (u1 u hu).2.1; omega, by have := (u1 u hu).2.2.1; omega⟩)
  have hz : ∀ u ∈ us, u.f0.size ≤ 9223372036854775807 ∧ ∀ s ∈ u.f2, s.size ≤ 9223372036854775807 := fun u hu => ⟨by have := (u1 u hu).1; omega, fun s hs => by have := (u1 u hu).2.2.2 s hs; omega⟩
  have hI := implFail_ev us B b hb2 hz (fun s hs => by have := b1 s hs; omega)
  refine Ev.neg c (Ev.bind e (Ev.bind hI (Ev.bind hb1 ?_)))
  cases b with
  | false =>
    refine Ev.neg (by simp) (Ev.pos (by simp) (Ev.bind okNone Ev.pure))
  | true =>
    have hu := UOk_of hb2
    have hlen := hu.len
    have hfl := failed_len hlen B
    have hS := specFail_ev us B true hb1 (fun _ => hu)
    rw [if_pos ⟨rfl, by omega⟩] at hS ⊢
    refine Ev.pos rfl (Ev.bind hS (Ev.pos rfl ?_))
    refine countLoop (fun k i => laws_FnFailing.l0 k us B (failed us B) i) us.length true ?_ ?_
    · intro i hi ih
      have hsz := u1 _ (List.getElem_mem hi)
      have hw := why_iff hu B (List.getElem_mem hi)
      refine Ev.step ?_
      simp only [laws_FnFailing.l0, rd55 us i hi]
      refine Ev.pos (by omega) (Ev.pos (by omega) (Ev.bind (lawHas_ev B (us[i]).f0 (by omega)) ?_))
      have key := downTo (us[i]).f2.length (fun j => ∀ b : Bool, (b || ((us[i]).f2.drop j).any (whyF us (failed us B))) = hasW (failed us B) (us[i]).f0 → Ev (fun k => laws_FnFailing.l1 k us B (failed us B) (i : Int) b (j : Int)) true) ?_ ?_ 0 (by omega)
      · exact key _ (by simpa using hw)
      · intro b hb
        rw [List.drop_length, List.any_nil, Bool.or_false] at hb
        refine Ev.step ?_
        simp only [laws_FnFailing.l1, rd55 us i hi, upN i (by omega)]
        refine Ev.pos (by omega) (Ev.pos (by omega) (Ev.neg (by omega) (Ev.bind (lawHas_ev _ _ (by omega)) (Ev.neg ?_ ih))))
        rw [hb]
        simp
      · intro j hj ih2 b hb
        rw [List.drop_eq_getElem_cons hj, List.any_cons] at hb
        have hs := hsz.2.2.1
        refine Ev.step ?_
        simp only [laws_FnFailing.l1, rd55 us i hi, rdStr (us[i]).f2 j hj, upN j (by omega)]
        refine Ev.pos (by omega) (Ev.pos (by omega) (Ev.pos (by omega) ?_))
        by_cases d : b = true
        · subst d
          exact Ev.pos rfl (ih2 true (by rw [← hb]; simp))
        · obtain ⟨t, ht, ha⟩ := lawUnit_ev us (by omega) ((us[i]).f2[j])
          have hb' : b = false := by simpa using d
          subst hb'
          refine Ev.neg d (Ev.pos (by omega) (Ev.bind ht ?_))
          by_cases g : t < 0
          · refine Ev.pos g (ih2 true ?_)
            rw [← hb]
            have := (isAt_has ha).1 g
            simp [whyF, this]
          · refine Ev.neg g (Ev.bind (lawHas_ev _ _ (by omega)) (ih2 _ ?_))
            rw [← hb]
            have : hasU us ((us[i]).f2[j]) = true := by
              cases q : hasU us ((us[i]).f2[j])
              · exact absurd ((isAt_has ha).2 q) g
              · rfl
            simp [whyF, this]
    · have hw : wrap64 ((B.length : Int) / 2) = ((B.length / 2 : Nat) : Int) := by
        unfold wrap64
        omega
      have hb' : (B.take (B.length / 2)).length ≤ 2000 := by
        rw [List.length_take]
        omega
      have hI2 := implFail_ev us (B.take (B.length / 2)) true hb2 hz (fun s hs => by have := b1 s (List.mem_of_mem_take hs); omega)
      rw [if_pos ⟨rfl, hb'⟩] at hI2
      have hgl := failed_len hlen (B.take (B.length / 2))
      have hsub : ∀ s ∈ failed us (B.take (B.length / 2)), s ∈ failed us B := fun s hs => (failed_iff us B s).2 (((failed_iff us _ s).1 hs).more (fun _ h => List.mem_of_mem_take h))
      refine Ev.step ?_
      simp only [laws_FnFailing.l0, hw, Int.toNat_natCast]
      refine Ev.neg (by omega) (Ev.pos (by omega) (Ev.pos (by omega) (Ev.bind hI2 ?_)))
      generalize failed us (B.take (B.length / 2)) = G at hgl hsub
      refine countLoop (fun k i => laws_FnFailing.l2 k (failed us B) G i) G.length true ?_ ?_
      · intro i hi ih
        refine Ev.step ?_
        simp only [laws_FnFailing.l2, rdStr G i hi, upN i (by omega)]
        refine Ev.pos (by omega) (Ev.pos (by omega) (Ev.bind (lawHas_ev _ _ (by omega)) (Ev.pos ?_ ih)))
        exact (hasW_iff _ _).2 (hsub _ (List.getElem_mem hi))
      · refine Ev.step ?_
        simp only [laws_FnFailing.l2]
        exact Ev.neg (by omega) (Ev.bind okNone Ev.pure)

end Go.Proofs.Ytnahkojlamficaa.Pure
