/- The pure statement of FnPlanReaches: a plan, done in whole or in part and planned anew, leads to the same, where nothing is left to start or stop. -/
import Derived.Test.YtnahkojlamficaaPFnPlanReachesx0
import Derived.Test.YtnahkojlamficaaPFnPlanReachesx1
import Derived.Test.YtnahkojlamficaaPFnPlanReachesx10
import Derived.Test.YtnahkojlamficaaPFnPlanReachesx11
import Derived.Test.YtnahkojlamficaaPFnPlanReachesx12
import Derived.Test.YtnahkojlamficaaPFnPlanReachesx13
import Derived.Test.YtnahkojlamficaaPFnPlanReachesx14
import Derived.Test.YtnahkojlamficaaPFnPlanReachesx2
import Derived.Test.YtnahkojlamficaaPFnPlanReachesx3
import Derived.Test.YtnahkojlamficaaPFnPlanReachesx4
import Derived.Test.YtnahkojlamficaaPFnPlanReachesx5
import Derived.Test.YtnahkojlamficaaPFnPlanReachesx6
import Derived.Test.YtnahkojlamficaaPFnPlanReachesx7
import Derived.Test.YtnahkojlamficaaPFnPlanReachesx8
import Derived.Test.YtnahkojlamficaaPFnPlanReachesx9
import Derived.Laws.BitsLemmas
import Derived.Laws.Bits64b
import Derived.Lib.Bytealg
namespace Go.Proofs.Ytnahkojlamficaa.Pure
open Go.RowKit Go.Proofs.YtnahkojlamficaaW.PrintWords Go.Proofs.YtnahkojlamficaaW.PrintLast Go.Proofs.YtnahkojlamficaaW.PrintMore Go.Proofs.Ytnahkojlamficaa.PFnPlanReaches

theorem u64w (n : Int) (h0 : 0 ≤ n) (h1 : n < 18446744073709551616) : IntKind.u64.wrap n = n := by
  simp [IntKind.wrap, IntKind.signed, IntKind.bits]; omega
theorem i64w (n : Int) (h0 : -9223372036854775808 ≤ n) (h1 : n < 9223372036854775808) : IntKind.i64.wrap n = n := by
  rw [IntKind.wrap_i64]; omega
theorem w64 (n : Int) (h0 : -9223372036854775808 ≤ n) (h1 : n < 9223372036854775808) : wrap64 n = n := by unfold wrap64; omega
theorem up1 (i : Int) (h0 : 0 ≤ i) (h : i < 9223372036854775807) : wrap64 (i + 1) = i + 1 := by unfold wrap64; omega
theorem u64_lo (n : Int) : 0 ≤ IntKind.u64.wrap n := by simp [IntKind.wrap, IntKind.signed, IntKind.bits]; omega
theorem u64_hi (n : Int) : IntKind.u64.wrap n < 18446744073709551616 := by simp [IntKind.wrap, IntKind.signed, IntKind.bits]; omega
theorem u64_wf (x : Int) (h : (Lit.int .u64 x).wf = true) : 0 ≤ x ∧ x < 18446744073709551616 := by
  simp [Lit.wf, IntKind.min, IntKind.max, IntKind.signed, IntKind.bits] at h; omega
theorem and31 (x : Int) (h0 : 0 ≤ x) (h1 : x < 18446744073709551616) : Go.bits .and .u64 x 31 = x % 32 := by
  have := bits_mask .u64 64 (by decide) (fun n a b => u64w n a (by simpa using b)) 5 (by decide) x h0 (by simpa using h1)
  simpa using this
theorem or5 (a c : Int) (h0 : 0 ≤ a) (h1 : a * 32 < 18446744073709551616) (hc0 : 0 ≤ c) (hc : c < 32) : Go.bits .or .u64 (a * 32) c = a * 32 + c := by
  have := bits_join .u64 64 (by decide) (fun n x y => u64w n x (by simpa using y)) 5 (a * 32) c (by omega) (by omega) (by simpa using h1) hc0 (by simpa using hc) (by simp; omega)
  exact this
theorem bt_list (l : List UInt8) (i : Int) : bt ⟨l.toArray⟩ i = ((l.getD i.toNat 0).toNat : Int) := by
  unfold bt
  split
  · rename_i h
    have h' : i.toNat < l.length := by simpa [ByteArray.size] using h
    rw [List.getD_eq_getElem?_getD, List.getElem?_eq_getElem h']
    rfl
  · rename_i h
    have h' : l.length ≤ i.toNat := by simpa [ByteArray.size] using h
    rw [List.getD_eq_getElem?_getD, List.getElem?_eq_none h']; rfl
/-- The alphabet of chapter 1. -/
def alpha : ByteArray := ⟨#[48, 49, 50, 51, 52, 53, 54, 55, 56, 57, 97, 98, 99, 100, 102, 103, 104, 105, 106, 107, 108, 109, 110, 112, 113, 114, 115, 118, 119, 120, 121, 122]⟩
/-- The n-th digit from the right, as its byte. -/
def dg (x : Int) (n : Nat) : Int := bt alpha (x / 2 ^ (5 * n) % 32)
/-- The last n digits. -/
def ds (x : Int) : Nat → List Int
  | 0 => []
  | n + 1 => dg x n :: ds x n
theorem ds_length (x : Int) : ∀ n, (ds x n).length = n
  | 0 => rfl
  | n + 1 => by simp [ds, ds_length x n]
/-- The thirteen bytes. -/
def word (x : Int) : ByteArray := strOfNums (ds x 13)
theorem div_lo (x : Int) (h0 : 0 ≤ x) (n : Nat) : 0 ≤ x / 2 ^ n := Int.ediv_nonneg h0 (by have := Nat.two_pow_pos n; exact_mod_cast Nat.zero_le _)
theorem div_hi (x : Int) (h0 : 0 ≤ x) (n : Nat) : x / 2 ^ n ≤ x := Int.ediv_le_self _ h0
theorem shr5 (x : Int) (n : Nat) (hn : n ≤ 12) : shr .u64 x (5 * n) = x / 2 ^ (5 * n) := by
  unfold shr
  have e : (5 * (n : Int)).toNat = 5 * n := by omega
  rw [e, Nat.min_eq_left (by simp [IntKind.bits]; omega)]
/-- What a byte is worth as a digit; -1: it is none. -/
def dv (c : Int) : Int := Lib.indexByte alpha.data.toList c.toNat.toUInt8
theorem dv_all : ∀ c : Fin 256, -1 ≤ dv (c.val : Int) ∧ dv (c.val : Int) < 32 := by decide +kernel
theorem dv_bounds (c : Int) (h0 : 0 ≤ c) (h1 : c ≤ 255) : -1 ≤ dv c ∧ dv c < 32 := by
  have := dv_all ⟨c.toNat, by omega⟩
  simpa [Int.toNat_of_nonneg h0] using this
/-- The number that thirteen digits tell, from the i-th on. -/
def rwGo (s : ByteArray) : Nat → Int → Nat → Int × Bool
  | 0, x, _ => (x, true)
  | d + 1, x, i => if dv (bt s i) < 0 then (0, false) else if i = 0 ∧ dv (bt s i) > 15 then (0, false) else rwGo s d (x * 32 + dv (bt s i)) (i + 1)
def rw32 (s : ByteArray) : Int × Bool := if s.size = 13 then rwGo s 13 0 0 else (0, false)
/-- The bound that the digits so far keep. -/
def lim (d : Nat) : Int := if d = 13 then 1 else 2 ^ (64 - 5 * d)
theorem lim_all : ∀ d : Fin 13, lim d.val ≤ 18446744073709551616 ∧ 0 < lim d.val ∧ (d.val < 12 → lim (d.val + 1) * 32 = lim d.val) ∧ (d.val = 12 → lim d.val = 16) ∧ lim (d.val + 1) * 32 ≤ 18446744073709551616 := by decide +kernel
theorem word_size (x : Int) : (word x).size = 13 := by unfold word; rw [strOfNums_size, ds_length]

-- Ev
/-- With fuel enough the run answers r. -/
def Ev {α : Type} (f : Nat → Option α) (r : α) : Prop := ∃ K, ∀ k, K ≤ k → f k = some r
theorem Ev.pure {α : Type} {r : α} : Ev (fun _ => some r) r := ⟨0, fun _ _ => rfl⟩
theorem Ev.of {α : Type} {f : Nat → Option α} {r : α} (N : Nat) (h : ∀ k, N ≤ k → f k = some r) : Ev f r := ⟨N, h⟩
theorem Ev.step {α : Type} {f : Nat → Option α} {r : α} (h : Ev (fun k => f (k + 1)) r) : Ev f r := by
  obtain ⟨K, h⟩ := h
  refine ⟨K + 1, fun k hk => ?_⟩
  obtain ⟨m, rfl⟩ : ∃ m, k = m + 1 := ⟨k - 1, by omega⟩
  exact h m (by omega)
theorem Ev.bind {α β : Type} {f : Nat → Option α} {g : Nat → α → Option β} {a : α} {r : β} (h : Ev f a) (h2 : Ev (fun k => g k a) r) : Ev (fun k => (f k).bind (g k)) r := by
  obtain ⟨K, h⟩ := h
  obtain ⟨K2, h2⟩ := h2
  refine ⟨K + K2, fun k hk => ?_⟩
  show (f k).bind (g k) = some r
  rw [h k (by omega)]
  exact h2 k (by omega)
theorem Ev.cons {α β : Type} {x : Option α} {g : Nat → α → Option β} {a : α} {r : β} (h : x = some a) (h2 : Ev (fun k => g k a) r) : Ev (fun k => x.bind (g k)) r := by
  subst h
  exact h2
theorem Ev.pos {α : Type} {c : Prop} [Decidable c] {f g : Nat → Option α} {r : α} (hc : c) (h : Ev f r) : Ev (fun k => if c then f k else g k) r := by
  simpa only [if_pos hc] using h
theorem Ev.neg {α : Type} {c : Prop} [Decidable c] {f g : Nat → Option α} {r : α} (hc : ¬ c) (h : Ev g r) : Ev (fun k => if c then f k else g k) r := by
  simpa only [if_neg hc] using h
theorem Ev.at {α : Type} {f : Nat → Option α} {r : α} (h : Ev f r) : ∃ k, f k = some r := by
  obtain ⟨K, h⟩ := h
  exact ⟨K, h K (Nat.le_refl _)⟩
theorem Ev.uniq {α : Type} {f : Nat → Option α} {r s : α} (h : Ev f r) (h2 : Ev f s) : r = s := by
  obtain ⟨K, h⟩ := h
  obtain ⟨K2, h2⟩ := h2
  have a := h (K + K2) (by omega)
  have b := h2 (K + K2) (by omega)
  rw [a] at b
  exact Option.some.inj b
/-- From the end down. -/
theorem downTo (n : Nat) (P : Nat → Prop) (base : P n) (step : ∀ i, i < n → P (i + 1) → P i) : ∀ i, i ≤ n → P i := by
  intro i hi
  obtain ⟨d, rfl⟩ : ∃ d, i = n - d := ⟨n - i, by omega⟩
  clear hi
  induction d with
  | zero => exact base
  | succ d ih =>
    by_cases h : d < n
    · refine step _ (by omega) ?_
      have e : n - (d + 1) + 1 = n - d := by omega
      rw [e]; exact ih
    · have e : n - (d + 1) = n - d := by omega
      rw [e]; exact ih
theorem upN (i : Nat) (h : i < 1000000000000000) : wrap64 ((i : Int) + 1) = ((i + 1 : Nat) : Int) := by unfold wrap64; omega
theorem dnN (i : Nat) (h : i < 1000000000000000) (h0 : 0 < i) : wrap64 ((i : Int) - 1) = ((i - 1 : Nat) : Int) := by unfold wrap64; omega
/-- A loop that sets place by place leaves the row's picture. -/
theorem setLoop {A B : Type} (L : Nat → List B → Int → Option (List B)) (x : List A) (c : A → B)
    (step : ∀ (i : Nat) (y : List B) (r : List B) (h : i < x.length), y.length = x.length → Ev (fun k => L k (y.set i (c x[i])) ((i + 1 : Nat) : Int)) r → Ev (fun k => L k y (i : Int)) r)
    (stop : ∀ y : List B, y.length = x.length → Ev (fun k => L k y ((x.length : Nat) : Int)) y) :
    ∀ y : List B, y.length = x.length → Ev (fun k => L k y 0) (x.map c) := by
  have main := downTo x.length (fun i => ∀ y : List B, y.length = x.length → y.take i = (x.map c).take i → Ev (fun k => L k y (i : Int)) (x.map c)) ?_ ?_
  · intro y hy
    exact main 0 (by omega) y hy (by simp)
  · intro y hy he
    rw [List.take_of_length_le (by omega), List.take_of_length_le (by simp)] at he
    have := stop y hy
    rw [he] at this
    rw [he] at hy
    exact he ▸ stop y (by rw [he]; exact hy)
  · intro i hi ih y hy he
    refine step i y _ hi hy (ih _ (by simp [hy]) ?_)
    rw [List.take_add_one, List.take_add_one, List.take_set_of_le (by omega), he, List.getElem?_set_self (by omega)]
    simp [List.getElem?_eq_getElem hi]
theorem countLoop {α : Type} (L : Nat → Int → Option α) (n : Nat) (r : α) (step : ∀ i : Nat, i < n → Ev (fun k => L k ((i + 1 : Nat) : Int)) r → Ev (fun k => L k (i : Int)) r) (stop : Ev (fun k => L k ((n : Nat) : Int)) r) : Ev (fun k => L k 0) r :=
  downTo n (fun i => Ev (fun k => L k (i : Int)) r) stop (fun i hi h => step i hi h) 0 (by omega)

-- RdS
theorem rdStr (l : List ByteArray) (i : Nat) (h : i < l.length) : rdOf ByteArray.empty l (i : Int) = l[i] := by unfold rdOf; simp [List.getD_eq_getElem?_getD, List.getElem?_eq_getElem h]

-- NameOk
def nmByte (c : Int) : Bool := (decide (97 ≤ c) && decide (c ≤ 122)) || (decide (65 ≤ c) && decide (c ≤ 90)) || (decide (48 ≤ c) && decide (c ≤ 57)) || c == 45 || c == 95 || c == 46 || c == 43
/-- Are n bytes from the i-th on those of a name? -/
def nmGo (s : ByteArray) : Nat → Nat → Bool
  | 0, _ => true
  | d + 1, i => nmByte (bt s i) && nmGo s d (i + 1)
/-- A name. -/
def nmOk (s : ByteArray) : Bool := decide (1 ≤ s.size) && decide (s.size ≤ 60) && !(bt s 0 == 46) && nmGo s s.size 0
theorem l1Letter_f (c : Int) : spec_l1Letter.f c = some ((decide (97 ≤ c) && decide (c ≤ 122)) || (decide (65 ≤ c) && decide (c ≤ 90))) := by
  unfold spec_l1Letter.f
  by_cases h1 : 97 ≤ c <;> by_cases h2 : c ≤ 122 <;> by_cases h3 : 65 ≤ c <;> by_cases h4 : c ≤ 90 <;> simp [h1, h2, h3, h4] <;> omega
theorem l1Digit_f (c : Int) : spec_l1Digit.f c = some (decide (48 ≤ c) && decide (c ≤ 57)) := by
  unfold spec_l1Digit.f
  by_cases h1 : 48 ≤ c <;> by_cases h2 : c ≤ 57 <;> simp [h1, h2]
theorem letter_f (c : Int) : impl_letter.f c = some ((decide (97 ≤ c) && decide (c ≤ 122)) || (decide (65 ≤ c) && decide (c ≤ 90))) := by
  unfold impl_letter.f
  by_cases h1 : 97 ≤ c <;> by_cases h2 : c ≤ 122 <;> by_cases h3 : 65 ≤ c <;> by_cases h4 : c ≤ 90 <;> simp [h1, h2, h3, h4] <;> omega
theorem digit_f (c : Int) : impl_digit.f c = some (decide (48 ≤ c) && decide (c ≤ 57)) := by
  unfold impl_digit.f
  by_cases h1 : 48 ≤ c <;> by_cases h2 : c ≤ 57 <;> simp [h1, h2]
theorem spec_NameOk_loop (s : ByteArray) (hs : s.size ≤ 60) : ∀ (d i k : Nat), i + d = s.size → d < k → spec_NameOk.l0 k s (i : Int) = some (nmGo s d i) := by
  intro d
  induction d with
  | zero =>
    intro i k hi hk
    obtain ⟨k, rfl⟩ : ∃ m, k = m + 1 := ⟨k - 1, by omega⟩
    simp only [spec_NameOk.l0]; rw [if_neg (by omega)]; rfl
  | succ d ih =>
    intro i k hi hk
    obtain ⟨k, rfl⟩ : ∃ m, k = m + 1 := ⟨k - 1, by omega⟩
    have e3 : wrap64 ((i : Int) + 1) = ((i + 1 : Nat) : Int) := by rw [up1 _ (by omega) (by omega)]; omega
    simp only [spec_NameOk.l0, nmGo, nmByte]
    rw [if_pos (by omega), if_pos (by omega), l1Letter_f, l1Digit_f, e3, ih (i + 1) k (by omega) (by omega)]
    simp only [Option.bind_some]
    generalize bt s (i : Int) = c
    generalize nmGo s d (i + 1) = g
    generalize ((decide (97 ≤ c) && decide (c ≤ 122)) || (decide (65 ≤ c) && decide (c ≤ 90))) = p
    generalize (decide (48 ≤ c) && decide (c ≤ 57)) = q
    cases p <;> cases q <;> simp
    by_cases h1 : c = 45
    · simp [h1]
    · by_cases h2 : c = 95
      · simp [h2]
      · by_cases h3 : c = 46
        · simp [h3]
        · by_cases h4 : c = 43
          · simp [h4]
          · simp [h1, h2, h3, h4]
theorem spec_NameOk_f (s : ByteArray) (k : Nat) (hk : 63 ≤ k) : spec_NameOk.f k s = some (nmOk s) := by
  obtain ⟨k, rfl⟩ : ∃ m, k = m + 1 := ⟨k - 1, by omega⟩
  unfold spec_NameOk.f nmOk
  simp only [spec_NameOk.j0]
  by_cases h1 : (s.size : Int) < 1
  · rw [if_pos h1]
    have : ¬ 1 ≤ s.size := by omega
    simp [this]
  · rw [if_neg h1]
    have e1 : 1 ≤ s.size := by omega
    by_cases h2 : (s.size : Int) > 60
    · rw [if_pos h2]
      have : ¬ s.size ≤ 60 := by omega
      simp [this]
    · rw [if_neg h2, if_pos (by omega)]
      have e2 : s.size ≤ 60 := by omega
      have h := spec_NameOk_loop s e2 s.size 0 k (by omega) (by omega)
      rw [show ((0 : Nat) : Int) = 0 from rfl] at h
      rw [h]
      by_cases h3 : bt s 0 = 46
      · simp [h3]
      · simp [h3, e1, e2]
theorem w32_byte (s : ByteArray) (i : Int) : wrap32 (bt s i) = bt s i := by
  have := bt_range s i
  unfold wrap32; omega
theorem impl_NameOk_loop (s : ByteArray) (hs : s.size ≤ 60) : ∀ (d i k : Nat), i + d = s.size → d < k → impl_NameOk.l0 k s (s.size : Int) (i : Int) = some (nmGo s d i) := by
  intro d
  induction d with
  | zero =>
    intro i k hi hk
    obtain ⟨k, rfl⟩ : ∃ m, k = m + 1 := ⟨k - 1, by omega⟩
    simp only [impl_NameOk.l0]; rw [if_neg (by omega)]; rfl
  | succ d ih =>
    intro i k hi hk
    obtain ⟨k, rfl⟩ : ∃ m, k = m + 1 := ⟨k - 1, by omega⟩
    have e3 : wrap64 ((i : Int) + 1) = ((i + 1 : Nat) : Int) := by rw [up1 _ (by omega) (by omega)]; omega
    have hb := bt_range s (i : Int)
    have e4 : strings_ContainsRune.f (⟨#[45, 95, 46, 43]⟩ : ByteArray) (bt s (i : Int)) = some (bt s (i : Int) == 45 || bt s (i : Int) == 95 || bt s (i : Int) == 46 || bt s (i : Int) == 43) := by
      unfold strings_ContainsRune.f
      rw [if_pos (by rw [Lib.toList_data]), if_pos (by omega)]
    simp only [impl_NameOk.l0, nmGo, nmByte]
    rw [if_pos (by omega), if_pos (by omega), if_pos (by omega), letter_f, digit_f, w32_byte, e4, e3, ih (i + 1) k (by omega) (by omega)]
    simp only [Option.bind_some]
    generalize bt s (i : Int) = c
    generalize nmGo s d (i + 1) = g
    generalize ((decide (97 ≤ c) && decide (c ≤ 122)) || (decide (65 ≤ c) && decide (c ≤ 90))) = p
    generalize (decide (48 ≤ c) && decide (c ≤ 57)) = q
    generalize (c == 45) = r1
    generalize (c == 95) = r2
    generalize (c == 46) = r3
    generalize (c == 43) = r4
    cases p <;> cases q <;> cases r1 <;> cases r2 <;> cases r3 <;> cases r4 <;> simp
theorem impl_NameOk_f (s : ByteArray) (k : Nat) (hk : 63 ≤ k) : impl_NameOk.f k s = some (nmOk s) := by
  obtain ⟨k, rfl⟩ : ∃ m, k = m + 1 := ⟨k - 1, by omega⟩
  unfold impl_NameOk.f nmOk
  simp only [impl_NameOk.j0]
  by_cases h1 : (s.size : Int) < 1
  · rw [if_pos h1]
    have : ¬ 1 ≤ s.size := by omega
    simp [this]
  · rw [if_neg h1]
    have e1 : 1 ≤ s.size := by omega
    by_cases h2 : (s.size : Int) > 60
    · rw [if_pos h2]
      have : ¬ s.size ≤ 60 := by omega
      simp [this]
    · rw [if_neg h2, if_pos (by omega)]
      have e2 : s.size ≤ 60 := by omega
      have h := impl_NameOk_loop s e2 s.size 0 k (by omega) (by omega)
      rw [show ((0 : Nat) : Int) = 0 from rfl] at h
      rw [h]
      by_cases h3 : bt s 0 = 46
      · simp [h3]
      · simp [h3, e1, e2]

-- UnitsO
theorem Ev.guard {f g : Nat → Option Bool} {a b : Bool} (h : Ev f a) (h2 : Ev g b) : Ev (fun k => (f k).bind fun t => if t = true then g k else some false) (a && b) := by
  cases a
  · exact Ev.bind h (Ev.neg (by simp) Ev.pure)
  · rw [Bool.true_and]
    exact Ev.bind h (Ev.pos rfl h2)
theorem rd55 (l : List S55) (i : Nat) (h : i < l.length) : rd_T55 l (i : Int) = l[i] := by unfold rd_T55; simp [List.getD_eq_getElem?_getD, List.getElem?_eq_getElem h]
theorem specName_ev (s : ByteArray) : Ev (fun k => spec_NameOk.f k s) (nmOk s) := Ev.of 63 (fun k hk => spec_NameOk_f s k hk)
theorem implName_ev (s : ByteArray) : Ev (fun k => impl_NameOk.f k s) (nmOk s) := Ev.of 63 (fun k hk => impl_NameOk_f s k hk)
theorem rising_ev (l : List ByteArray) (hl : l.length ≤ 1048576) : ∃ b, Ev (fun k => spec_l17Ascending.f k l) (b && decide ((l.length : Int) ≤ 20)) ∧ Ev (fun k => impl_rising_hs.f k l) b := by
  unfold spec_l17Ascending.f impl_rising_hs.f
  refine downTo (l.length + 1) (fun i => 0 < i → ∃ b, Ev (fun k => spec_l17Ascending.l0 k l (i : Int)) (b && decide ((l.length : Int) ≤ 20)) ∧ Ev (fun k => impl_rising_hs.l0 k l (i : Int)) b) ?_ ?_ 1 (by omega) (by omega)
  · intro _
    refine ⟨true, Ev.step ?_, Ev.step ?_⟩
    · simp only [spec_l17Ascending.l0, Bool.true_and]
      exact Ev.neg (by omega) Ev.pure
    · simp only [impl_rising_hs.l0]
      exact Ev.neg (by omega) Ev.pure
  · intro i hi ih h0
    by_cases h : i < l.length
    · obtain ⟨b, h1, h2⟩ := ih (by omega)
      have hd := dnN i (by omega) h0
      have hi1 : i - 1 < l.length := by omega
      by_cases c : Op.bytesLess (l[i - 1]).toList (l[i]).toList = true
      · refine ⟨b, Ev.step ?_, Ev.step ?_⟩
        · simp only [spec_l17Ascending.l0, hd, rdStr l i h, rdStr l (i - 1) hi1, upN i (by omega)]
          exact Ev.pos (by omega) (Ev.pos (by omega) (Ev.pos (by omega) (Ev.pos (by omega) (Ev.pos c h1))))
        · simp only [impl_rising_hs.l0, hd, rdStr l i h, rdStr l (i - 1) hi1, upN i (by omega)]
          exact Ev.pos (by omega) (Ev.pos (by omega) (Ev.pos (by omega) (Ev.pos (by omega) (Ev.pos c h2))))
      · refine ⟨false, Ev.step ?_, Ev.step ?_⟩
        · simp only [spec_l17Ascending.l0, hd, rdStr l i h, rdStr l (i - 1) hi1, Bool.false_and]
          exact Ev.pos (by omega) (Ev.pos (by omega) (Ev.pos (by omega) (Ev.pos (by omega) (Ev.neg c Ev.pure))))
        · simp only [impl_rising_hs.l0, hd, rdStr l i h, rdStr l (i - 1) hi1]
          exact Ev.pos (by omega) (Ev.pos (by omega) (Ev.pos (by omega) (Ev.pos (by omega) (Ev.neg c Ev.pure))))
    · refine ⟨true, Ev.step ?_, Ev.step ?_⟩
      · simp only [spec_l17Ascending.l0, Bool.true_and]
        exact Ev.neg (by omega) Ev.pure
      · simp only [impl_rising_hs.l0]
        exact Ev.neg (by omega) Ev.pure
theorem names_ev (l : List ByteArray) (hl : l.length ≤ 1048576) (b : Bool) (hb : Ev (fun k => impl_rising_hs.f k l) b) : ∃ c, Ev (fun k => spec_l8Names.f k l) (c && decide ((l.length : Int) ≤ 2000)) ∧ Ev (fun k => impl_namesUp.f k l) (c && b) := by
  unfold spec_l8Names.f impl_namesUp.f
  refine downTo l.length (fun i => ∃ c, Ev (fun k => spec_l8Names.l0 k l (i : Int)) (c && decide ((l.length : Int) ≤ 2000)) ∧ Ev (fun k => impl_namesUp.l0 k l l (l.length : Int) (i : Int)) (c && b)) ?_ ?_ 0 (by omega)
  · refine ⟨true, Ev.step ?_, Ev.step ?_⟩
    · simp only [spec_l8Names.l0, Bool.true_and]
      exact Ev.neg (by omega) Ev.pure
    · simp only [impl_namesUp.l0, Bool.true_and]
      exact Ev.neg (by omega) (Ev.bind hb Ev.pure)
  · intro i hi ⟨c, h1, h2⟩
    refine ⟨nmOk l[i] && c, Ev.step ?_, Ev.step ?_⟩
    · simp only [spec_l8Names.l0, rdStr l i hi, upN i (by omega), Bool.and_assoc]
      exact Ev.pos (by omega) (Ev.pos (by omega) (Ev.guard (specName_ev _) h1))
    · simp only [impl_namesUp.l0, rdStr l i hi, upN i (by omega), Bool.and_assoc]
      exact Ev.pos (by omega) (Ev.pos (by omega) (Ev.pos (by omega) (Ev.guard (implName_ev _) h2)))
theorem UnitsOk_ev (x : List S55) (hx : x.length ≤ 1048576) (ok : ∀ u ∈ x, u.f1.length ≤ 1048576 ∧ u.f2.length ≤ 1048576) : ∃ b, Ev (fun k => spec_UnitsOk.f k x) b ∧ Ev (fun k => impl_UnitsOk.f k x) b := by
  unfold spec_UnitsOk.f impl_UnitsOk.f
  by_cases c0 : (x.length : Int) > 100
  · exact ⟨false, Ev.pos c0 Ev.pure, Ev.pos c0 Ev.pure⟩
  have key := downTo x.length (fun i => ∃ b, Ev (fun k => spec_UnitsOk.l0 k x (i : Int)) b ∧ Ev (fun k => impl_UnitsOk.l0 k x x (x.length : Int) (i : Int)) b) ?_ ?_ 0 (by omega)
  · obtain ⟨b, h1, h2⟩ := key
    exact ⟨b, Ev.neg c0 h1, Ev.neg c0 h2⟩
  · refine ⟨true, Ev.step ?_, Ev.step ?_⟩
    · simp only [spec_UnitsOk.l0]
      exact Ev.neg (by omega) Ev.pure
    · simp only [impl_UnitsOk.l0]
      exact Ev.neg (by omega) Ev.pure
  · intro i hi ⟨b', g1, g2⟩
    obtain ⟨o1, o2⟩ := ok _ (List.getElem_mem hi)
    obtain ⟨b1, a1, r1⟩ := rising_ev (x[i]).f1 o1
    obtain ⟨b2, a2, r2⟩ := rising_ev (x[i]).f2 o2
    obtain ⟨n1, s1, i1⟩ := names_ev (x[i]).f1 o1 b1 r1
    obtain ⟨n2, s2, i2⟩ := names_ev (x[i]).f2 o2 b2 r2
    have fs : Ev (fun k => if ((x[i]).f3.size : Int) > 4000 then some false else spec_UnitsOk.l0 k x ((i + 1 : Nat) : Int)) (if ((x[i]).f3.size : Int) > 4000 then false else b') := by
      by_cases c : ((x[i]).f3.size : Int) > 4000
      · rw [if_pos c]; exact Ev.pos c Ev.pure
      · rw [if_neg c]; exact Ev.neg c g1
    have fi : Ev (fun k => if ((x[i]).f3.size : Int) > 4000 then some false else impl_UnitsOk.l0 k x x (x.length : Int) ((i + 1 : Nat) : Int)) (if ((x[i]).f3.size : Int) > 4000 then false else b') := by
      by_cases c : ((x[i]).f3.size : Int) > 4000
      · rw [if_pos c]; exact Ev.pos c Ev.pure
      · rw [if_neg c]; exact Ev.neg c g2
    generalize (if ((x[i]).f3.size : Int) > 4000 then false else b') = e at fs fi
    have ts := Ev.guard a1 (Ev.guard a2 (Ev.guard s1 (Ev.guard s2 fs)))
    have ti0 := Ev.guard i1 (Ev.guard i2 fi)
    have ti : Ev (fun k => if ((x[i]).f1.length : Int) > 20 then some false else (if ((x[i]).f2.length : Int) > 20 then some false else ((impl_namesUp.f k (x[i]).f1).bind fun t => if t = true then ((impl_namesUp.f k (x[i]).f2).bind fun t => if t = true then (if ((x[i]).f3.size : Int) > 4000 then some false else impl_UnitsOk.l0 k x x (x.length : Int) ((i + 1 : Nat) : Int)) else some false) else some false)))
        ((b1 && decide (((x[i]).f1.length : Int) ≤ 20)) && ((b2 && decide (((x[i]).f2.length : Int) ≤ 20)) && ((n1 && decide (((x[i]).f1.length : Int) ≤ 2000)) && ((n2 && decide (((x[i]).f2.length : Int) ≤ 2000)) && e)))) := by
      by_cases l1 : ((x[i]).f1.length : Int) > 20
      · rw [decide_eq_false (show ¬ ((x[i]).f1.length : Int) ≤ 20 by omega), Bool.and_false, Bool.false_and]
        exact Ev.pos l1 Ev.pure
      · by_cases l2 : ((x[i]).f2.length : Int) > 20
        · rw [decide_eq_false (show ¬ ((x[i]).f2.length : Int) ≤ 20 by omega), Bool.and_false, Bool.false_and, Bool.and_false]
          exact Ev.neg l1 (Ev.pos l2 Ev.pure)
        · rw [decide_eq_true (show ((x[i]).f1.length : Int) ≤ 20 by omega), decide_eq_true (show ((x[i]).f2.length : Int) ≤ 20 by omega), decide_eq_true (show ((x[i]).f1.length : Int) ≤ 2000 by omega), decide_eq_true (show ((x[i]).f2.length : Int) ≤ 2000 by omega)]
          have e1 : ((b1 && true) && ((b2 && true) && ((n1 && true) && ((n2 && true) && e)))) = ((n1 && b1) && ((n2 && b2) && e)) := by
            cases b1 <;> cases b2 <;> cases n1 <;> cases n2 <;> rfl
          rw [e1]
          exact Ev.neg l1 (Ev.neg l2 ti0)
    generalize ((b1 && decide (((x[i]).f1.length : Int) ≤ 20)) && ((b2 && decide (((x[i]).f2.length : Int) ≤ 20)) && ((n1 && decide (((x[i]).f1.length : Int) ≤ 2000)) && ((n2 && decide (((x[i]).f2.length : Int) ≤ 2000)) && e)))) = q at ts ti
    refine ⟨nmOk (x[i]).f0 && (if 0 < i then Op.bytesLess ((x[i - 1]).f0).toList ((x[i]).f0).toList && q else q), Ev.step ?_, Ev.step ?_⟩
    · simp only [spec_UnitsOk.l0, rd55 x i hi, upN i (by omega)]
      refine Ev.pos (by omega) (Ev.pos (by omega) (Ev.guard (specName_ev _) ?_))
      by_cases c : 0 < i
      · have hi1 : i - 1 < x.length := by omega
        simp only [if_pos c, dnN i (by omega) c, rd55 x (i - 1) hi1]
        refine Ev.pos (by omega) (Ev.pos (by omega) (Ev.pos (by omega) ?_))
        by_cases d : Op.bytesLess ((x[i - 1]).f0).toList ((x[i]).f0).toList = true
        · rw [d, Bool.true_and]
          exact Ev.pos rfl ts
        · rw [Bool.eq_false_iff.mpr d, Bool.false_and]
          exact Ev.neg (by simp) Ev.pure
      · rw [if_neg c]
        exact Ev.neg (by omega) ts
    · simp only [impl_UnitsOk.l0, rd55 x i hi, upN i (by omega)]
      refine Ev.pos (by omega) (Ev.pos (by omega) (Ev.pos (by omega) (Ev.guard (implName_ev _) ?_)))
      by_cases c : 0 < i
      · have hi1 : i - 1 < x.length := by omega
        simp only [if_pos c, dnN i (by omega) c, rd55 x (i - 1) hi1]
        refine Ev.pos (by omega) (Ev.pos (by omega) (Ev.pos (by omega) ?_))
        by_cases d : Op.bytesLess ((x[i - 1]).f0).toList ((x[i]).f0).toList = true
        · rw [d, Bool.true_and]
          exact Ev.pos rfl ti
        · rw [Bool.eq_false_iff.mpr d, Bool.false_and]
          exact Ev.neg (by simp) Ev.pure
      · rw [if_neg c]
        exact Ev.neg (by omega) ti

-- UnitsF
/-- What units that are ok are. -/
structure UOk (x : List S55) : Prop where
  len : x.length ≤ 100
  ord : ∀ (j : Nat) (h : j < x.length), 0 < j → ltS (x[j - 1]).f0 (x[j]).f0
  cnt : ∀ u ∈ x, u.f1.length ≤ 20 ∧ u.f2.length ≤ 20
theorem unitsInv (x : List S55) (hx : x.length ≤ 100) : ∀ (d i k : Nat), i + d = x.length → impl_UnitsOk.l0 k x x (x.length : Int) (i : Int) = some true → ∀ (j : Nat) (hj : j < x.length), i ≤ j → (x[j]).f1.length ≤ 20 ∧ (x[j]).f2.length ≤ 20 ∧ (0 < j → ltS (x[j - 1]).f0 (x[j]).f0) := by
  intro d
  induction d with
  | zero => intro i k hd _ j hj hij; omega
  | succ d ih =>
    intro i k hd h j hj hij
    cases k with
    | zero => exact absurd h (by simp [impl_UnitsOk.l0])
    | succ k =>
      have hi : i < x.length := by omega
      simp only [impl_UnitsOk.l0, rd55 x i hi, upN i (by omega)] at h
      rw [if_pos (by omega), if_pos (by omega), if_pos (by omega)] at h
      obtain ⟨t, _, h⟩ := Option.bind_eq_some_iff.mp h
      have rest : ∀ {f g : Option Bool}, (if ((x[i]).f1.length : Int) > 20 then some false else (if ((x[i]).f2.length : Int) > 20 then some false else (f.bind fun t => if t = true then (g.bind fun t => if t = true then (if ((x[i]).f3.size : Int) > 4000 then some false else impl_UnitsOk.l0 k x x (x.length : Int) ((i + 1 : Nat) : Int)) else some false) else some false))) = some true →
          (x[i]).f1.length ≤ 20 ∧ (x[i]).f2.length ≤ 20 ∧ impl_UnitsOk.l0 k x x (x.length : Int) ((i + 1 : Nat) : Int) = some true := by
        intro f g h
        split at h
        · exact absurd h (by simp)
        · split at h
          · exact absurd h (by simp)
          · obtain ⟨t, _, h⟩ := Option.bind_eq_some_iff.mp h
            split at h
            · obtain ⟨t, _, h⟩ := Option.bind_eq_some_iff.mp h
              split at h
              · split at h
                · exact absurd h (by simp)
                · exact ⟨by omega, by omega, h⟩
              · exact absurd h (by simp)
            · exact absurd h (by simp)
      have main : (x[i]).f1.length ≤ 20 ∧ (x[i]).f2.length ≤ 20 ∧ (0 < i → ltS (x[i - 1]).f0 (x[i]).f0) ∧ impl_UnitsOk.l0 k x x (x.length : Int) ((i + 1 : Nat) : Int) = some true := by
        by_cases ht : t = true
        · rw [if_pos ht] at h
          by_cases c : 0 < i
          · have hi1 : i - 1 < x.length := by omega
            rw [if_pos (by omega)] at h
            simp only [dnN i (by omega) c, rd55 x (i - 1) hi1] at h
            rw [if_pos (by omega), if_pos (by omega)] at h
            by_cases e : Op.bytesLess ((x[i - 1]).f0).toList ((x[i]).f0).toList = true
            · rw [if_pos e] at h
              obtain ⟨a, b, c'⟩ := rest h
              exact ⟨a, b, fun _ => e, c'⟩
            · rw [if_neg e] at h
              exact absurd h (by simp)
          · rw [if_neg (by omega)] at h
            obtain ⟨a, b, c'⟩ := rest h
            exact ⟨a, b, fun h0 => absurd h0 c, c'⟩
        · rw [if_neg ht] at h
          exact absurd h (by simp)
      obtain ⟨a, b, c, e⟩ := main
      by_cases hji : j = i
      · subst hji
        exact ⟨a, b, c⟩
      · exact ih (i + 1) k (by omega) e j hj (by omega)
theorem UOk_of {x : List S55} (h : Ev (fun k => impl_UnitsOk.f k x) true) : UOk x := by
  obtain ⟨k, h⟩ := h.at
  unfold impl_UnitsOk.f at h
  by_cases c : (x.length : Int) > 100
  · rw [if_pos c] at h
    exact absurd h (by simp)
  · rw [if_neg c] at h
    have key := unitsInv x (by omega) x.length 0 k (by omega) h
    exact ⟨by omega, fun j hj h0 => (key j hj (by omega)).2.2 h0, fun u hu => by
      obtain ⟨j, hj, rfl⟩ := List.getElem_of_mem hu
      exact ⟨(key j hj (by omega)).1, (key j hj (by omega)).2.1⟩⟩
def namesU (x : List S55) : List ByteArray := x.map fun u => u.f0
theorem UOk.lt {x : List S55} (h : UOk x) : ∀ (d i : Nat) (hd : i + 1 + d < x.length), ltS (x[i]).f0 (x[i + 1 + d]).f0 := by
  intro d
  induction d with
  | zero => intro i hd; exact h.ord (i + 1) hd (by omega)
  | succ d ih =>
    intro i hd
    exact ltS_trans (ih i (by omega)) (h.ord (i + 1 + (d + 1)) hd (by omega))
theorem UOk.inj {x : List S55} (h : UOk x) {i j : Nat} (hi : i < x.length) (hj : j < x.length) (e : (x[i]).f0 = (x[j]).f0) : i = j := by
  rcases Nat.lt_trichotomy i j with c | c | c
  · have := h.lt (j - i - 1) i (by omega)
    simp only [show i + 1 + (j - i - 1) = j by omega] at this
    rw [e] at this
    exact absurd this (ltS_irr _)
  · exact c
  · have := h.lt (i - j - 1) j (by omega)
    simp only [show j + 1 + (i - j - 1) = i by omega] at this
    rw [e] at this
    exact absurd this (ltS_irr _)
theorem has_ev (l : List ByteArray) (s : ByteArray) (hl : l.length ≤ 1000000000) : Ev (fun k => spec_l3Has.f k l s) (hasW l s) := by
  unfold spec_l3Has.f
  have key := downTo l.length (fun i => Ev (fun k => spec_l3Has.l0 k l s (i : Int)) (hasW (l.drop i) s)) ?_ ?_ 0 (by omega)
  · simpa using key
  · refine Ev.step ?_
    simp only [spec_l3Has.l0, List.drop_length]
    exact Ev.neg (by omega) Ev.pure
  · intro i hi ih
    refine Ev.step ?_
    simp only [spec_l3Has.l0, rdStr l i hi, upN i (by omega)]
    rw [List.drop_eq_getElem_cons hi]
    refine Ev.pos (by omega) (Ev.pos (by omega) ?_)
    by_cases c : (l[i]).toList = s.toList
    · have e : hasW (l[i] :: l.drop (i + 1)) s = true := by
        unfold hasW
        rw [List.any_cons, decide_eq_true c, Bool.true_or]
      rw [e]
      exact Ev.pos c Ev.pure
    · have e : hasW (l[i] :: l.drop (i + 1)) s = hasW (l.drop (i + 1)) s := by
        unfold hasW
        rw [List.any_cons, decide_eq_false c, Bool.false_or]
      rw [e]
      exact Ev.neg c ih
/-- Where a unit of this name is. -/
def isAt (x : List S55) (s : ByteArray) (t : Int) : Prop := (t < 0 ∧ s ∉ namesU x) ∨ ∃ (i : Nat) (h : i < x.length), t = (i : Int) ∧ (x[i]).f0 = s
theorem find_ev (x : List S55) (hx : x.length ≤ 1048576) (s : ByteArray) : ∃ t : Int, Ev (fun k => spec_l18Find.f k x s) t ∧ Ev (fun k => impl_unitOf.f k x s) t ∧ isAt x s t := by
  unfold spec_l18Find.f impl_unitOf.f
  have key := downTo x.length (fun i => ∃ t : Int, Ev (fun k => spec_l18Find.l0 k x s (i : Int)) t ∧ Ev (fun k => impl_unitOf.l0 k s x (x.length : Int) (i : Int)) t ∧ ((t < 0 ∧ s ∉ namesU (x.drop i)) ∨ ∃ (i : Nat) (h : i < x.length), t = (i : Int) ∧ (x[i]).f0 = s)) ?_ ?_ 0 (by omega)
  · obtain ⟨t, a, b, c⟩ := key
    exact ⟨t, a, b, by simpa [isAt] using c⟩
  · refine ⟨-1, Ev.step ?_, Ev.step ?_, .inl ⟨by omega, by simp [namesU]⟩⟩
    · simp only [spec_l18Find.l0]
      exact Ev.neg (by omega) Ev.pure
    · simp only [impl_unitOf.l0]
      exact Ev.neg (by omega) Ev.pure
  · intro i hi ⟨t, a, b, c⟩
    by_cases d : ((x[i]).f0).toList = s.toList
    · refine ⟨(i : Int), Ev.step ?_, Ev.step ?_, .inr ⟨i, hi, rfl, toList_inj d⟩⟩
      · simp only [spec_l18Find.l0, rd55 x i hi]
        exact Ev.pos (by omega) (Ev.pos (by omega) (Ev.pos d Ev.pure))
      · simp only [impl_unitOf.l0, rd55 x i hi]
        exact Ev.pos (by omega) (Ev.pos (by omega) (Ev.pos (by omega) (Ev.pos d Ev.pure)))
    · refine ⟨t, Ev.step ?_, Ev.step ?_, c.imp_left fun e => ⟨e.1, ?_⟩⟩
      · simp only [spec_l18Find.l0, rd55 x i hi, upN i (by omega)]
        exact Ev.pos (by omega) (Ev.pos (by omega) (Ev.neg d a))
      · simp only [impl_unitOf.l0, rd55 x i hi, upN i (by omega)]
        exact Ev.pos (by omega) (Ev.pos (by omega) (Ev.pos (by omega) (Ev.neg d b)))
      · rw [List.drop_eq_getElem_cons hi]
        intro h
        rcases List.mem_cons.1 h with h | h
        · exact d (by rw [h])
        · exact e.2 h
theorem isAt_neg {x : List S55} {s : ByteArray} {t : Int} (h : isAt x s t) : t < 0 ↔ s ∉ namesU x := by
  rcases h with ⟨a, b⟩ | ⟨i, hi, rfl, rfl⟩
  · exact ⟨fun _ => b, fun _ => a⟩
  · exact ⟨fun h => absurd h (by omega), fun h => absurd (List.mem_map.2 ⟨x[i], List.getElem_mem hi, rfl⟩) h⟩
def hasU (x : List S55) (s : ByteArray) : Bool := hasW (namesU x) s
theorem isAt_has {x : List S55} {s : ByteArray} {t : Int} (h : isAt x s t) : t < 0 ↔ hasU x s = false := by
  rw [isAt_neg h, hasU, ← Bool.not_eq_true, hasW_iff]

-- LeftU
/-- How many of the units are not told yet. -/
def leftU (us : List S55) (S : List ByteArray) : Nat := us.countP fun u => !hasW S u.f0
theorem countP_le {α : Type} (l : List α) (p q : α → Bool) (h : ∀ x ∈ l, p x = true → q x = true) : l.countP p ≤ l.countP q := List.countP_mono_left h
theorem countP_lt {α : Type} (l : List α) (p q : α → Bool) (h : ∀ x ∈ l, p x = true → q x = true) (x : α) (hx : x ∈ l) (hp : p x = false) (hq : q x = true) : l.countP p < l.countP q := by
  induction l with
  | nil => exact absurd hx (by simp)
  | cons a r ih =>
    rw [List.countP_cons, List.countP_cons]
    have hr := countP_le r p q (fun y hy => h y (List.mem_cons_of_mem _ hy))
    rcases List.mem_cons.1 hx with rfl | hx
    · rw [hp, hq]
      simp only [Bool.false_eq_true, if_false, if_true]
      omega
    · have := ih (fun y hy => h y (List.mem_cons_of_mem _ hy)) hx
      have ha := h a List.mem_cons_self
      cases hpa : p a
      · cases hqa : q a
        · simp only [Bool.false_eq_true, if_false]
          omega
        · simp only [Bool.false_eq_true, if_false, if_true]
          omega
      · rw [ha hpa]
        simp only [if_true]
        omega
theorem leftU_le (us : List S55) (S : List ByteArray) : leftU us S ≤ us.length := List.countP_le_length
theorem hasW_mono {S T : List ByteArray} (h : ∀ s ∈ S, s ∈ T) (s : ByteArray) (hs : (!hasW T s) = true) : (!hasW S s) = true := by
  rw [Bool.not_eq_true'] at *
  rw [← Bool.not_eq_true] at *
  exact fun e => hs ((hasW_iff _ _).2 (h s ((hasW_iff _ _).1 e)))
theorem leftU_lt {us : List S55} {S T : List ByteArray} (h : ∀ s ∈ S, s ∈ T) {u : S55} (hu : u ∈ us) (h1 : u.f0 ∉ S) (h2 : u.f0 ∈ T) : leftU us T < leftU us S := by
  refine countP_lt us _ _ (fun x _ => hasW_mono h x.f0) u hu ?_ ?_
  · rw [(hasW_iff _ _).2 h2]
    rfl
  · rw [Bool.not_eq_true', ← Bool.not_eq_true]
    exact fun e => h1 ((hasW_iff _ _).1 e)

-- StartOrder
/-- Does all that a unit waits for stand in S? -/
def readyU (us : List S55) (S : List ByteArray) (u : S55) : Bool := (u.f2.all fun n => hasW S n) && u.f1.all fun n => !hasU us n || hasW S n
def nextU (us : List S55) (S : List ByteArray) (u : S55) : Bool := !hasW S u.f0 && readyU us S u
/-- The first of the units that can be started is started. -/
def pickU (us : List S55) (S : List ByteArray) (l : List S55) : List ByteArray := match l.find? (nextU us S) with
  | some u => S ++ [u.f0]
  | none => S
def ordIt (us : List S55) : Nat → List ByteArray → List ByteArray
  | 0, S => S
  | n + 1, S => ordIt us n (pickU us S us)
def ordered (us : List S55) : List ByteArray := ordIt us us.length []
theorem pickU_cons (us : List S55) (S : List ByteArray) (u : S55) (l : List S55) : pickU us S (u :: l) = if nextU us S u = true then S ++ [u.f0] else pickU us S l := by
  unfold pickU
  rw [List.find?_cons]
  cases nextU us S u <;> rfl
theorem pickU_len (us : List S55) (S : List ByteArray) (l : List S55) : (pickU us S l).length ≤ S.length + 1 := by
  unfold pickU
  split
  · simp
  · omega
theorem ordIt_fix {us : List S55} {S : List ByteArray} (h : pickU us S us = S) : ∀ n, ordIt us n S = S := by
  intro n
  induction n with
  | zero => rfl
  | succ n ih =>
    unfold ordIt
    rw [h]
    exact ih
theorem ordIt_len (us : List S55) : ∀ (n : Nat) (S : List ByteArray), (ordIt us n S).length ≤ S.length + n := by
  intro n
  induction n with
  | zero => intro S; simp [ordIt]
  | succ n ih =>
    intro S
    have h1 := ih (pickU us S us)
    have h2 := pickU_len us S us
    unfold ordIt
    omega
/-! ### The reference's run -/
theorem ready_ev (us : List S55) (hu : us.length ≤ 100) (S : List ByteArray) (hS : S.length ≤ 1000) (u : S55) (h1 : u.f1.length ≤ 20) (h2 : u.f2.length ≤ 20) : Ev (fun k => spec_l18Ready.f k us u.f0 u.f1 u.f2 u.f3 u.f4 S) (readyU us S u) := by
  have A : Ev (fun k => spec_l18Ready.l1 k us S 0 u.f0 u.f1 u.f2 u.f3 u.f4) (u.f1.all fun n => !hasU us n || hasW S n) := by
    have key := downTo u.f1.length (fun i => Ev (fun k => spec_l18Ready.l1 k us S (i : Int) u.f0 u.f1 u.f2 u.f3 u.f4) ((u.f1.drop i).all fun n => !hasU us n || hasW S n)) ?_ ?_ 0 (by omega)
    · simpa using key
    · refine Ev.step ?_
      simp only [spec_l18Ready.l1, List.drop_length]
      exact Ev.neg (by omega) Ev.pure
    · intro i hi ih
      rw [List.drop_eq_getElem_cons hi, List.all_cons]
      refine Ev.step ?_
      simp only [spec_l18Ready.l1, rdStr u.f1 i hi, upN i (by omega)]
      obtain ⟨t, ht, _, ha⟩ := find_ev us (by omega) (u.f1[i])
      have hn := isAt_has ha
      refine Ev.pos (by omega) (Ev.pos (by omega) (Ev.bind ht ?_))
      by_cases c : t < 0
      · rw [hn.1 c]
        exact Ev.neg (by omega) (by simpa using ih)
      · have e : hasU us (u.f1[i]) = true := by
          rw [← Bool.not_eq_false]
          exact fun e => c (hn.2 e)
        rw [e]
        refine Ev.pos (by omega) (Ev.bind (has_ev S (u.f1[i]) (by omega)) ?_)
        cases hasW S (u.f1[i])
        · exact Ev.neg (by simp) Ev.pure
        · exact Ev.pos rfl (by simpa using ih)
  unfold spec_l18Ready.f readyU
  have key := downTo u.f2.length (fun i => Ev (fun k => spec_l18Ready.l0 k us S (i : Int) u.f0 u.f1 u.f2 u.f3 u.f4) (((u.f2.drop i).all fun n => hasW S n) && u.f1.all fun n => !hasU us n || hasW S n)) ?_ ?_ 0 (by omega)
  · simpa using key
  · refine Ev.step ?_
    simp only [spec_l18Ready.l0, List.drop_length]
    exact Ev.neg (by omega) (by simpa using A)
  · intro i hi ih
    rw [List.drop_eq_getElem_cons hi, List.all_cons]
    refine Ev.step ?_
    simp only [spec_l18Ready.l0, rdStr u.f2 i hi, upN i (by omega)]
    refine Ev.pos (by omega) (Ev.pos (by omega) (Ev.bind (has_ev S (u.f2[i]) (by omega)) ?_))
    cases hasW S (u.f2[i])
    · exact Ev.neg (by simp) Ev.pure
    · exact Ev.pos rfl (by simpa using ih)
theorem specOrder_ev (us : List S55) (b : Bool) (hb : Ev (fun k => spec_UnitsOk.f k us) b) (hu : b = true → UOk us) : Ev (fun k => spec_StartOrder.f k us) (if b = true then (ordered us, ((ordered us).length : Int) == (us.length : Int)) else ([], false)) := by
  unfold spec_StartOrder.f
  refine Ev.cons rfl (Ev.bind hb ?_)
  by_cases c : b = true
  · have hu := hu c
    have hl := hu.len
    rw [if_pos c]
    refine Ev.pos c ?_
    have key := downTo us.length (fun n => ∀ S : List ByteArray, S.length ≤ n → ordIt us (us.length - n) S = ordered us → Ev (fun k => spec_StartOrder.l0 k us S (n : Int)) (ordered us, ((ordered us).length : Int) == (us.length : Int))) ?_ ?_ 0 (by omega)
    · exact key [] (by simp) rfl
    · intro S hS h
      rw [Nat.sub_self] at h
      refine Ev.step ?_
      simp only [spec_StartOrder.l0]
      rw [← h]
      exact Ev.neg (by omega) Ev.pure
    · intro n hn ih S hS h
      refine Ev.step ?_
      simp only [spec_StartOrder.l0]
      refine Ev.pos (by omega) ?_
      have h2 : Ev (fun k => spec_StartOrder.l0 k us (pickU us S us) ((n + 1 : Nat) : Int)) (ordered us, ((ordered us).length : Int) == (us.length : Int)) := by
        refine ih _ (by have := pickU_len us S us; omega) ?_
        rw [← h, show us.length - n = (us.length - (n + 1)) + 1 by omega]
        rfl
      have key := downTo us.length (fun i => Ev (fun k => spec_StartOrder.l0 k us (pickU us S (us.drop i)) ((n + 1 : Nat) : Int)) (ordered us, ((ordered us).length : Int) == (us.length : Int)) → Ev (fun k => spec_StartOrder.l1 k us S (n : Int) (i : Int)) (ordered us, ((ordered us).length : Int) == (us.length : Int))) ?_ ?_ 0 (by omega)
      · exact key (by simpa using h2)
      · intro h
        rw [List.drop_length] at h
        refine Ev.step ?_
        simp only [spec_StartOrder.l1, upN n (by omega)]
        exact Ev.neg (by omega) h
      · intro i hi ih h
        rw [List.drop_eq_getElem_cons hi, pickU_cons] at h
        have hc := hu.cnt _ (List.getElem_mem hi)
        refine Ev.step ?_
        simp only [spec_StartOrder.l1, rd55 us i hi, upN i (by omega), upN n (by omega)]
        refine Ev.pos (by omega) (Ev.pos (by omega) (Ev.bind (has_ev S _ (by omega)) ?_))
        unfold nextU at h
        by_cases d : hasW S (us[i]).f0 = true
        · rw [d] at h
          exact Ev.pos d (ih (by simpa using h))
        · rw [Bool.eq_false_iff.mpr d] at h
          refine Ev.neg d (Ev.bind (ready_ev us hl S (by omega) (us[i]) hc.1 hc.2) ?_)
          by_cases e : readyU us S us[i] = true
          · rw [e] at h
            exact Ev.pos e (Ev.pos (by omega) (by simpa using h))
          · rw [Bool.eq_false_iff.mpr e] at h
            exact Ev.neg e (ih (by simpa using h))
  · rw [if_neg c]
    exact Ev.neg c Ev.pure
/-! ### The program's run -/
theorem foldl_insS_len (l : List ByteArray) : ∀ a : List ByteArray, (l.foldl insS a).length ≤ a.length + l.length := by
  induction l with
  | nil => intro a; simp
  | cons s r ih =>
    intro a
    have h1 := ih (insS a s)
    have h2 : (insS a s).length ≤ a.length + 1 := by
      induction a with
      | nil => simp [insS]
      | cons x a iha =>
        unfold insS
        repeat' split
        all_goals simp only [List.length_cons]
        all_goals first | omega | (have := iha (by have := ih (insS a s); omega); omega)
    rw [List.foldl_cons, List.length_cons]
    omega
theorem waits_ev (us : List S55) (hu : us.length ≤ 100) (u : S55) (h1 : u.f1.length ≤ 20) (h2 : u.f2.length ≤ 20) (z1 : ∀ s ∈ u.f1, s.size ≤ 9223372036854775807) (z2 : ∀ s ∈ u.f2, s.size ≤ 9223372036854775807) :
    ∃ W : List ByteArray, Ev (fun k => impl_waits.f k us u.f0 u.f1 u.f2 u.f3 u.f4) W ∧ asc W ∧ W.length ≤ 40 ∧ ∀ s, s ∈ W ↔ s ∈ u.f2 ∨ (s ∈ u.f1 ∧ hasU us s = true) := by
  have key := downTo u.f1.length (fun i => ∀ X : List ByteArray, X.length ≤ 20 + i → (∀ s ∈ X, s.size ≤ 9223372036854775807) → ∃ W : List ByteArray, Ev (fun k => impl_waits.l0 k us X u.f1 (u.f1.length : Int) (i : Int)) W ∧ asc W ∧ W.length ≤ 40 ∧ ∀ s, s ∈ W ↔ s ∈ X ∨ (s ∈ u.f1.drop i ∧ hasU us s = true)) ?_ ?_ 0 (by omega)
  · obtain ⟨W, a, b, c, d⟩ := key u.f2 (by omega) z2
    refine ⟨W, ?_, b, c, by simpa using d⟩
    unfold impl_waits.f
    exact Ev.cons rfl (Ev.pos (by simp; omega) (by simpa using a))
  · intro X hX hz
    refine ⟨X.foldl insS [], Ev.step ?_, sortW_asc X [] List.Pairwise.nil, by have := foldl_insS_len X []; simp only [List.length_nil] at this; omega, fun s => ?_⟩
    · simp only [impl_waits.l0]
      refine Ev.neg (by omega) (Ev.cons ?_ Ev.pure)
      unfold impl_sortedSet.f
      rw [if_pos ⟨by omega, List.all_eq_true.2 fun s hs => decide_eq_true (hz s hs)⟩]
    · rw [sortW_mem, List.drop_length]
      simp
  · intro i hi ih X hX hz
    obtain ⟨t, _, ht, ha⟩ := find_ev us (by omega) (u.f1[i])
    have hn := isAt_has ha
    by_cases c : t < 0
    · obtain ⟨W, a, b, c', d⟩ := ih X (by omega) hz
      refine ⟨W, Ev.step ?_, b, c', fun s => (d s).trans ?_⟩
      · simp only [impl_waits.l0, rdStr u.f1 i hi, upN i (by omega)]
        exact Ev.pos (by omega) (Ev.pos (by omega) (Ev.pos (by omega) (Ev.bind ht (Ev.neg (by omega) a))))
      · rw [List.drop_eq_getElem_cons hi, List.mem_cons]
        constructor
        · rintro (h | h)
          · exact .inl h
          · exact .inr ⟨.inr h.1, h.2⟩
        · rintro (h | ⟨rfl | h, q⟩)
          · exact .inl h
          · rw [hn.1 c] at q
            cases q
          · exact .inr ⟨h, q⟩
    · have e : hasU us (u.f1[i]) = true := by
        rw [← Bool.not_eq_false]
        exact fun e => c (hn.2 e)
      obtain ⟨W, a, b, c', d⟩ := ih (X ++ [u.f1[i]]) (by simp; omega) (fun s hs => by
        rcases List.mem_append.1 hs with h | h
        · exact hz s h
        · have : s = u.f1[i] := by simpa using h
          rw [this]
          exact z1 _ (List.getElem_mem hi))
      refine ⟨W, Ev.step ?_, b, c', fun s => (d s).trans ?_⟩
      · simp only [impl_waits.l0, rdStr u.f1 i hi, upN i (by omega)]
        exact Ev.pos (by omega) (Ev.pos (by omega) (Ev.pos (by omega) (Ev.bind ht (Ev.pos (by omega) (Ev.pos (by omega) a)))))
      · rw [List.drop_eq_getElem_cons hi, List.mem_cons, List.mem_append, List.mem_singleton]
        constructor
        · rintro ((h | h) | h)
          · exact .inl h
          · exact .inr ⟨.inl h, by rw [h]; exact e⟩
          · exact .inr ⟨.inr h.1, h.2⟩
        · rintro (h | ⟨h | h, q⟩)
          · exact .inl (.inl h)
          · exact .inl (.inr h)
          · exact .inr ⟨h, q⟩
theorem ready_waits {us : List S55} {S W : List ByteArray} {u : S55} (h : ∀ s, s ∈ W ↔ s ∈ u.f2 ∨ (s ∈ u.f1 ∧ hasU us s = true)) : (W.all fun w => hasW S w) = readyU us S u := by
  rw [Bool.eq_iff_iff]
  unfold readyU
  rw [Bool.and_eq_true, List.all_eq_true, List.all_eq_true, List.all_eq_true]
  constructor
  · intro g
    refine ⟨fun n hn => g n ((h n).2 (.inl hn)), fun n hn => ?_⟩
    cases e : hasU us n
    · rfl
    · rw [g n ((h n).2 (.inr ⟨hn, e⟩))]
      rfl
  · rintro ⟨g1, g2⟩ n hn
    rcases (h n).1 hn with hn | ⟨hn, e⟩
    · exact g1 n hn
    · have := g2 n hn
      rw [e] at this
      simpa using this
theorem implWait_ev (us : List S55) (S : List ByteArray) (hS : S.length ≤ 100000) (m : Bool) (i : Nat) (hi : i < 1000) (u : S55) (W : List ByteArray) (hW : W.length ≤ 40) (r : List ByteArray)
    (h : Ev (fun k => if (W.all fun w => hasW S w) = true then impl_startOrder.l0 k us (S ++ [u.f0]) (S ++ [u.f0]) true else impl_startOrder.l1 k us S S m us (us.length : Int) ((i + 1 : Nat) : Int)) r) :
    Ev (fun k => impl_startOrder.l2 k us S S m true us (us.length : Int) (i : Int) W (W.length : Int) 0 u.f0 u.f1 u.f2 u.f3 u.f4) r := by
  have key := downTo W.length (fun j => ∀ b : Bool, (b && (W.drop j).all fun w => hasW S w) = (W.all fun w => hasW S w) → Ev (fun k => impl_startOrder.l2 k us S S m b us (us.length : Int) (i : Int) W (W.length : Int) (j : Int) u.f0 u.f1 u.f2 u.f3 u.f4) r) ?_ ?_ 0 (by omega)
  · exact key true (by simp)
  · intro b hb
    rw [List.drop_length, List.all_nil, Bool.and_true] at hb
    rw [← hb] at h
    refine Ev.step ?_
    simp only [impl_startOrder.l2, upN i (by omega)]
    refine Ev.neg (by omega) ?_
    cases b
    · exact Ev.neg (by simp) (by simpa using h)
    · exact Ev.pos rfl (Ev.pos (by omega) (Ev.pos (by omega) (by simpa using h)))
  · intro j hj ih b hb
    rw [List.drop_eq_getElem_cons hj, List.all_cons] at hb
    refine Ev.step ?_
    simp only [impl_startOrder.l2, rdStr W j hj, upN j (by omega)]
    refine Ev.pos (by omega) (Ev.pos (by omega) (Ev.pos (by omega) ?_))
    cases b
    · exact Ev.neg (by simp) (ih false (by rw [← hb]; simp))
    · exact Ev.pos rfl (Ev.cons rfl (ih _ (by rw [← hb]; simp)))
theorem implOrder_ev (us : List S55) (hu : UOk us) (hz : ∀ u ∈ us, u.f0.size ≤ 9223372036854775807 ∧ (∀ s ∈ u.f1, s.size ≤ 9223372036854775807) ∧ ∀ s ∈ u.f2, s.size ≤ 9223372036854775807) : Ev (fun k => impl_startOrder.f k us) (ordered us) := by
  have hl := hu.len
  unfold impl_startOrder.f
  refine Ev.pos (List.all_eq_true.2 fun u h => decide_eq_true (hz u h).1) ?_
  have round : ∀ (S : List ByteArray) (r : List ByteArray), S.length ≤ 1000 → Ev (fun k => impl_startOrder.l0 k us (pickU us S us) (pickU us S us) (us.any (nextU us S))) r → Ev (fun k => impl_startOrder.l0 k us S S true) r := by
    intro S r hS h
    refine Ev.step ?_
    simp only [impl_startOrder.l0]
    refine Ev.pos trivial ?_
    have key := downTo us.length (fun i => Ev (fun k => impl_startOrder.l0 k us (pickU us S (us.drop i)) (pickU us S (us.drop i)) ((us.drop i).any (nextU us S))) r → Ev (fun k => impl_startOrder.l1 k us S S false us (us.length : Int) (i : Int)) r) ?_ ?_ 0 (by omega)
    · exact key (by simpa using h)
    · intro h
      rw [List.drop_length] at h
      refine Ev.step ?_
      simp only [impl_startOrder.l1]
      exact Ev.neg (by omega) h
    · intro i hi ih h
      rw [List.drop_eq_getElem_cons hi, pickU_cons, List.any_cons] at h
      have hc := hu.cnt _ (List.getElem_mem hi)
      obtain ⟨q0, q1, q2⟩ := hz _ (List.getElem_mem hi)
      refine Ev.step ?_
      simp only [impl_startOrder.l1, rd55 us i hi, upN i (by omega)]
      refine Ev.pos (by omega) (Ev.pos (by omega) (Ev.pos (by omega) (Ev.cons rfl ?_)))
      rw [show nextU us S us[i] = (!hasW S (us[i]).f0 && readyU us S us[i]) from rfl] at h
      by_cases d : hasW S (us[i]).f0 = true
      · rw [d] at h
        exact Ev.pos d (ih (by simpa using h))
      · rw [Bool.eq_false_iff.mpr d] at h
        obtain ⟨W, w1, w2, w3, w4⟩ := waits_ev us hl (us[i]) hc.1 hc.2 q1 q2
        refine Ev.neg d (Ev.bind w1 (Ev.pos ?_ (implWait_ev us S (by omega) false i (by omega) (us[i]) W w3 r ?_)))
        · refine List.all_eq_true.2 fun s hs => decide_eq_true ?_
          rcases (w4 s).1 hs with hs | hs
          · exact q2 s hs
          · exact q1 s hs.1
        · rw [ready_waits w4]
          by_cases e : readyU us S us[i] = true
          · rw [e] at h
            exact Ev.pos e (by simpa using h)
          · rw [Bool.eq_false_iff.mpr e] at h
            exact Ev.neg e (ih (by simpa using h))
  have stop : ∀ S : List ByteArray, Ev (fun k => impl_startOrder.l0 k us S S false) S := fun S => by
    refine Ev.step ?_
    simp only [impl_startOrder.l0]
    exact Ev.neg (by simp) Ev.pure
  have main : ∀ (n : Nat) (S : List ByteArray), leftU us S ≤ n → S.length + n ≤ 100 → Ev (fun k => impl_startOrder.l0 k us S S true) (ordIt us n S) := by
    intro n
    induction n with
    | zero =>
      intro S h0 h1
      have e : us.any (nextU us S) = false := by
        rw [List.any_eq_false]
        intro u hu hn
        have := List.countP_eq_zero.1 (Nat.le_zero.1 h0) u hu
        unfold nextU at hn
        rw [Bool.and_eq_true] at hn
        exact this hn.1
      have f : pickU us S us = S := by
        unfold pickU
        rw [List.find?_eq_none.2 (by rw [List.any_eq_false] at e; exact e)]
      refine round S _ (by omega) ?_
      rw [e, f]
      exact stop S
    | succ n ih =>
      intro S h0 h1
      refine round S _ (by omega) ?_
      cases e : us.find? (nextU us S) with
      | none =>
        have f : pickU us S us = S := by
          unfold pickU
          rw [e]
        have e' : us.any (nextU us S) = false := by
          rw [List.any_eq_false]
          exact List.find?_eq_none.1 e
        rw [e', f, ordIt_fix f]
        exact stop S
      | some u =>
        have f : pickU us S us = S ++ [u.f0] := by
          unfold pickU
          rw [e]
        have hm := List.mem_of_find?_eq_some e
        have hp := List.find?_some e
        have e' : us.any (nextU us S) = true := List.any_eq_true.2 ⟨u, hm, hp⟩
        unfold nextU at hp
        rw [Bool.and_eq_true, Bool.not_eq_true', ← Bool.not_eq_true] at hp
        have hlt : leftU us (S ++ [u.f0]) < leftU us S := leftU_lt (fun s hs => by simp [hs]) hm (fun h => hp.1 ((hasW_iff _ _).2 h)) (by simp)
        rw [e']
        unfold ordIt
        rw [f]
        exact ih _ (by omega) (by simp; omega)
  exact main us.length [] (leftU_le _ _) (by simpa using hl)

-- PlanU
theorem inList_ev (l : List ByteArray) (s : ByteArray) (hl : l.length ≤ 1000000000) : Ev (fun k => impl_inList.f k l s) (hasW l s) := by
  unfold impl_inList.f
  have key := downTo l.length (fun i => Ev (fun k => impl_inList.l0 k s l (l.length : Int) (i : Int)) (hasW (l.drop i) s)) ?_ ?_ 0 (by omega)
  · simpa using key
  · refine Ev.step ?_
    simp only [impl_inList.l0, List.drop_length]
    exact Ev.neg (by omega) Ev.pure
  · intro i hi ih
    refine Ev.step ?_
    simp only [impl_inList.l0, rdStr l i hi, upN i (by omega)]
    rw [List.drop_eq_getElem_cons hi]
    refine Ev.pos (by omega) (Ev.pos (by omega) (Ev.pos (by omega) ?_))
    by_cases c : (l[i]).toList = s.toList
    · have e : hasW (l[i] :: l.drop (i + 1)) s = true := by
        unfold hasW
        rw [List.any_cons, decide_eq_true c, Bool.true_or]
      rw [e]
      exact Ev.pos c Ev.pure
    · have e : hasW (l[i] :: l.drop (i + 1)) s = hasW (l.drop (i + 1)) s := by
        unfold hasW
        rw [List.any_cons, decide_eq_false c, Bool.false_or]
      rw [e]
      exact Ev.neg c ih
/-- The names of those that are not in a row, the last first. -/
def restOf (o : List ByteArray) (l : List S55) : List ByteArray := (l.reverse.filter fun u => !hasW o u.f0).map fun u => u.f0
def stopOf (new : List S55) (run l : List ByteArray) : List S62 := (l.filter fun s => hasW run s && !hasU new s).map fun s => (⟨1, s⟩ : S62)
def again (old new : List S55) (s : ByteArray) : Bool := old.any fun a => decide (a.f0 = s) && new.any fun b => decide (b.f0 = s) && (!decide (a.f3.toList = b.f3.toList) && !b.f4)
def startOf (old new : List S55) (run : List ByteArray) (s : ByteArray) : List S62 := if hasW run s = true then (if again old new s = true then [(⟨3, s⟩ : S62)] else []) else [(⟨2, s⟩ : S62)]
def stopsU (old : List S55) : List ByteArray := restOf (ordered old) old ++ (ordered old).reverse
def planU (old new : List S55) (run : List ByteArray) : List S62 := stopOf new run (stopsU old) ++ (ordered new).flatMap (startOf old new run)
theorem UOk.at_any {us : List S55} (h : UOk us) {i : Nat} (hi : i < us.length) (p : S55 → Bool) : (us.any fun a => decide (a.f0 = (us[i]).f0) && p a) = p us[i] := by
  rw [Bool.eq_iff_iff, List.any_eq_true]
  constructor
  · rintro ⟨a, ha, hp⟩
    obtain ⟨j, hj, rfl⟩ := List.getElem_of_mem ha
    rw [Bool.and_eq_true, decide_eq_true_eq] at hp
    have := h.inj hj hi hp.1
    subst this
    exact hp.2
  · intro hp
    exact ⟨us[i], List.getElem_mem hi, by rw [Bool.and_eq_true, decide_eq_true_eq]; exact ⟨rfl, hp⟩⟩
theorem no_any {us : List S55} {s : ByteArray} (h : s ∉ namesU us) (p : S55 → Bool) : (us.any fun a => decide (a.f0 = s) && p a) = false := by
  rw [List.any_eq_false]
  intro a ha hp
  rw [Bool.and_eq_true, decide_eq_true_eq] at hp
  exact h (List.mem_map.2 ⟨a, ha, hp.1⟩)
theorem again_at {old new : List S55} (ho : UOk old) (hn : UOk new) {i j : Nat} (hi : i < old.length) (hj : j < new.length) (e : (old[i]).f0 = (new[j]).f0) : again old new (new[j]).f0 = (!decide ((old[i]).f3.toList = (new[j]).f3.toList) && !(new[j]).f4) := by
  unfold again
  rw [← e, ho.at_any hi, e, hn.at_any hj]
theorem again_no {old new : List S55} {s : ByteArray} (h : s ∉ namesU old) : again old new s = false := no_any h _
theorem pickU_mem (us : List S55) (S : List ByteArray) (l : List S55) (h : ∀ u ∈ l, u ∈ us) (hS : ∀ s ∈ S, s ∈ namesU us) : ∀ s ∈ pickU us S l, s ∈ namesU us := by
  intro s hs
  unfold pickU at hs
  split at hs
  · rename_i u e
    rcases List.mem_append.1 hs with hs | hs
    · exact hS s hs
    · rw [List.mem_singleton.1 hs]
      exact List.mem_map.2 ⟨u, h u (List.mem_of_find?_eq_some e), rfl⟩
  · exact hS s hs
theorem ordIt_mem (us : List S55) : ∀ (n : Nat) (S : List ByteArray), (∀ s ∈ S, s ∈ namesU us) → ∀ s ∈ ordIt us n S, s ∈ namesU us := by
  intro n
  induction n with
  | zero => intro S h; exact h
  | succ n ih => intro S h; exact ih _ (pickU_mem us S us (fun _ h => h) h)
theorem ordered_mem (us : List S55) : ∀ s ∈ ordered us, s ∈ namesU us := ordIt_mem us us.length [] (fun _ h => absurd h (by simp))
theorem ordered_len (us : List S55) : (ordered us).length ≤ us.length := by
  have := ordIt_len us us.length []
  simpa [ordered] using this
theorem restOf_len (o : List ByteArray) (l : List S55) : (restOf o l).length ≤ l.length := by
  unfold restOf
  rw [List.length_map]
  exact Nat.le_trans (List.length_filter_le _ _) (by simp)
theorem restOf_take (o : List ByteArray) (l : List S55) (i : Nat) (h : i < l.length) : restOf o (l.take (i + 1)) = (if hasW o (l[i]).f0 = true then [] else [(l[i]).f0]) ++ restOf o (l.take i) := by
  unfold restOf
  rw [← List.take_append_getElem h, List.reverse_append, List.reverse_singleton, List.singleton_append, List.filter_cons]
  by_cases c : hasW o (l[i]).f0 = true
  · rw [if_pos c, if_neg (by rw [c]; simp)]
    rfl
  · rw [if_neg c, if_pos (by simpa using c)]
    rfl
theorem rev_take (o : List ByteArray) (i : Nat) (h : i < o.length) : (o.take (i + 1)).reverse = o[i] :: (o.take i).reverse := by
  rw [← List.take_append_getElem h, List.reverse_append]
  rfl
theorem stopOf_drop (new : List S55) (run l : List ByteArray) (i : Nat) (h : i < l.length) : stopOf new run (l.drop i) = (if hasW run l[i] = true ∧ hasU new l[i] = false then [(⟨1, l[i]⟩ : S62)] else []) ++ stopOf new run (l.drop (i + 1)) := by
  unfold stopOf
  rw [List.drop_eq_getElem_cons h, List.filter_cons]
  by_cases c : hasW run l[i] = true ∧ hasU new l[i] = false
  · rw [if_pos c, if_pos (by rw [c.1, c.2]; rfl)]
    rfl
  · rw [if_neg c, if_neg (fun e => c (by simpa using e))]
    rfl
theorem dnI (i : Nat) (h : i < 1000000000000000) : wrap64 ((i : Int) - 1) = (i : Int) - 1 := w64 _ (by omega) (by omega)
theorem sub1 (i : Nat) : (((i + 1 : Nat) : Int) - 1) = (i : Int) := by omega
theorem specPlan3_ev (old new : List S55) (hold : UOk old) (hnew : UOk new) (run : List ByteArray) (hr : run.length ≤ 2000) (o : List ByteArray) (ho : o.length ≤ 100) (hm : ∀ s ∈ o, s ∈ namesU new) (acts : List S62) (ha : acts.length ≤ 1000) :
    Ev (fun k => spec_PlanUnits.l3 k old new run acts o 0) (acts ++ o.flatMap (startOf old new run)) := by
  have n1 := hnew.len
  have n2 := hold.len
  have key := downTo o.length (fun i => ∀ acts : List S62, acts.length ≤ 1000 + i → Ev (fun k => spec_PlanUnits.l3 k old new run acts o (i : Int)) (acts ++ (o.drop i).flatMap (startOf old new run))) ?_ ?_ 0 (by omega)
  · exact key acts (by omega)
  · intro acts _
    refine Ev.step ?_
    simp only [spec_PlanUnits.l3, List.drop_length, List.flatMap_nil, List.append_nil]
    exact Ev.neg (by omega) Ev.pure
  · intro i hi ih acts hl
    have hin := hm _ (List.getElem_mem hi)
    obtain ⟨t, ts, ti, ta⟩ := find_ev new (by omega) (o[i])
    rcases ta with ⟨_, a⟩ | ⟨p, hp, rfl, e⟩
    · exact absurd hin a
    obtain ⟨q, qs, qi, qa⟩ := find_ev old (by omega) (o[i])
    have hf : (o.drop i).flatMap (startOf old new run) = startOf old new run o[i] ++ (o.drop (i + 1)).flatMap (startOf old new run) := by rw [List.drop_eq_getElem_cons hi, List.flatMap_cons]
    rw [hf]
    have skip : startOf old new run o[i] = [] → Ev (fun k => spec_PlanUnits.l3 k old new run acts o ((i + 1 : Nat) : Int)) (acts ++ (startOf old new run o[i] ++ (o.drop (i + 1)).flatMap (startOf old new run))) := by
      intro e
      rw [e, List.nil_append]
      exact ih acts (by omega)
    have put : ∀ x : S62, startOf old new run o[i] = [x] → Ev (fun k => spec_PlanUnits.l3 k old new run (acts ++ [x]) o ((i + 1 : Nat) : Int)) (acts ++ (startOf old new run o[i] ++ (o.drop (i + 1)).flatMap (startOf old new run))) := by
      intro x e
      rw [e, ← List.append_assoc]
      exact ih _ (by simp; omega)
    refine Ev.step ?_
    simp only [spec_PlanUnits.l3, rdStr o i hi, upN i (by omega)]
    refine Ev.pos (by omega) (Ev.pos (by omega) (Ev.bind ts (Ev.pos (by omega) (Ev.pos (by omega) (Ev.bind qs (Ev.bind (has_ev run o[i] (by omega)) ?_))))))
    by_cases c : hasW run o[i] = true
    · refine Ev.pos c (?_)
      rcases qa with ⟨a, b⟩ | ⟨j, hj, rfl, f⟩
      · refine Ev.neg (by omega) (skip ?_)
        unfold startOf
        rw [if_pos c, again_no b]
        rfl
      · have hg := again_at hold hnew hj hp (f.trans e.symm)
        rw [e] at hg
        simp only [rd55 new p hp, rd55 old j hj]
        refine Ev.pos (by omega) (Ev.pos (by omega) (Ev.pos (by omega) ?_))
        by_cases d : ((old[j]).f3).toList = ((new[p]).f3).toList
        · refine Ev.pos d (skip ?_)
          unfold startOf
          rw [if_pos c, hg, decide_eq_true d]
          rfl
        · refine Ev.neg d ?_
          by_cases g : (new[p]).f4 = true
          · refine Ev.pos g (skip ?_)
            unfold startOf
            rw [if_pos c, hg, g]
            simp
          · refine Ev.neg g (Ev.pos (by omega) (put _ ?_))
            unfold startOf
            rw [if_pos c, hg, decide_eq_false d, Bool.eq_false_iff.mpr g]
            rfl
    · refine Ev.neg c (Ev.pos (by omega) (put _ ?_))
      unfold startOf
      rw [if_neg c]
theorem specPlan2_ev (old new : List S55) (hold : UOk old) (hnew : UOk new) (hO : Ev (fun k => spec_StartOrder.f k new) (ordered new, ((ordered new).length : Int) == (new.length : Int))) (run : List ByteArray) (hr : run.length ≤ 2000) (l : List ByteArray) (hl : l.length ≤ 200) :
    Ev (fun k => spec_PlanUnits.l2 k old new run [] l 0) (stopOf new run l ++ (ordered new).flatMap (startOf old new run)) := by
  have n1 := hnew.len
  have n3 := ordered_len new
  have key := downTo l.length (fun i => ∀ acts : List S62, acts.length ≤ i → Ev (fun k => spec_PlanUnits.l2 k old new run acts l (i : Int)) (acts ++ (stopOf new run (l.drop i) ++ (ordered new).flatMap (startOf old new run)))) ?_ ?_ 0 (by omega)
  · simpa using key [] (by simp)
  · intro acts hx
    refine Ev.step ?_
    simp only [spec_PlanUnits.l2]
    rw [List.drop_length, show stopOf new run [] = [] from rfl, List.nil_append]
    exact Ev.neg (by omega) (Ev.bind hO (specPlan3_ev old new hold hnew run hr (ordered new) (by omega) (ordered_mem new) acts (by omega)))
  · intro i hi ih acts hx
    obtain ⟨t, ts, ti, ta⟩ := find_ev new (by omega) (l[i])
    have hh := isAt_has ta
    rw [stopOf_drop new run l i hi]
    refine Ev.step ?_
    simp only [spec_PlanUnits.l2, rdStr l i hi, upN i (by omega)]
    refine Ev.pos (by omega) (Ev.pos (by omega) (Ev.bind (has_ev run l[i] (by omega)) ?_))
    by_cases c : hasW run l[i] = true
    · refine Ev.pos c (Ev.bind ts ?_)
      by_cases d : t < 0
      · refine Ev.pos d (Ev.pos (by omega) ?_)
        rw [if_pos ⟨c, hh.1 d⟩, List.append_assoc, ← List.append_assoc]
        exact ih _ (by simp; omega)
      · refine Ev.neg d ?_
        rw [if_neg (fun e => d (hh.2 e.2)), List.nil_append]
        exact ih acts (by omega)
    · refine Ev.neg c ?_
      rw [if_neg (fun e => c e.1), List.nil_append]
      exact ih acts (by omega)
theorem specPlan1_ev (old new : List S55) (hold : UOk old) (hnew : UOk new) (hO : Ev (fun k => spec_StartOrder.f k new) (ordered new, ((ordered new).length : Int) == (new.length : Int))) (run : List ByteArray) (hr : run.length ≤ 2000) (o : List ByteArray) (ho : o.length ≤ 100) :
    ∀ (i : Nat) (l : List ByteArray), i ≤ o.length → l.length + i ≤ 200 → Ev (fun k => spec_PlanUnits.l1 k old new run [] o l ((i : Int) - 1)) (stopOf new run (l ++ (o.take i).reverse) ++ (ordered new).flatMap (startOf old new run)) := by
  intro i
  induction i with
  | zero =>
    intro l _ hl
    refine Ev.step ?_
    simp only [spec_PlanUnits.l1, List.take_zero, List.reverse_nil, List.append_nil]
    exact Ev.neg (by omega) (specPlan2_ev old new hold hnew hO run hr l (by omega))
  | succ i ih =>
    intro l hi hl
    refine Ev.step ?_
    simp only [spec_PlanUnits.l1, sub1 i, rdStr o i (by omega), dnI i (by omega)]
    refine Ev.pos (by omega) (Ev.pos (by omega) (Ev.pos (by omega) (Ev.pos (by omega) ?_)))
    rw [rev_take o i (by omega), show l ++ o[i] :: (o.take i).reverse = (l ++ [o[i]]) ++ (o.take i).reverse by simp]
    exact ih (l ++ [o[i]]) (by omega) (by rw [List.length_append, List.length_singleton]; omega)
theorem specPlan0_ev (old new : List S55) (hold : UOk old) (hnew : UOk new) (hO : Ev (fun k => spec_StartOrder.f k new) (ordered new, ((ordered new).length : Int) == (new.length : Int))) (run : List ByteArray) (hr : run.length ≤ 2000) (o : List ByteArray) (ho : o.length ≤ 100) :
    ∀ (i : Nat) (l : List ByteArray), i ≤ old.length → l.length + i ≤ 100 → Ev (fun k => spec_PlanUnits.l0 k old new run [] o l ((i : Int) - 1)) (stopOf new run (l ++ restOf o (old.take i) ++ o.reverse) ++ (ordered new).flatMap (startOf old new run)) := by
  have n2 := hold.len
  intro i
  induction i with
  | zero =>
    intro l _ hl
    refine Ev.step ?_
    simp only [spec_PlanUnits.l0, dnI o.length (by omega)]
    have := specPlan1_ev old new hold hnew hO run hr o ho o.length l (Nat.le_refl _) (by omega)
    rw [List.take_length] at this
    rw [show restOf o (old.take 0) = [] by simp [restOf], List.append_nil]
    exact Ev.neg (by omega) this
  | succ i ih =>
    intro l hi hl
    refine Ev.step ?_
    simp only [spec_PlanUnits.l0, sub1 i, rd55 old i (by omega), dnI i (by omega)]
    refine Ev.pos (by omega) (Ev.pos (by omega) (Ev.pos (by omega) (Ev.bind (has_ev o _ (by omega)) ?_)))
    rw [restOf_take o old i (by omega)]
    by_cases c : hasW o (old[i]).f0 = true
    · refine Ev.pos c ?_
      rw [if_pos c, List.nil_append]
      exact ih l (by omega) (by omega)
    · refine Ev.neg c (Ev.pos (by omega) ?_)
      rw [if_neg c, ← List.append_assoc]
      exact ih _ (by omega) (by simp; omega)
theorem implPlan3_ev (old new : List S55) (hold : UOk old) (hnew : UOk new) (run : List ByteArray) (hr : run.length ≤ 2000) (o : List ByteArray) (ho : o.length ≤ 100) (hm : ∀ s ∈ o, s ∈ namesU new) (acts : List S62) (ha : acts.length ≤ 1000) :
    Ev (fun k => impl_PlanUnits.l3 k old new run acts o (o.length : Int) 0) (acts ++ o.flatMap (startOf old new run)) := by
  have n1 := hnew.len
  have n2 := hold.len
  have key := downTo o.length (fun i => ∀ acts : List S62, acts.length ≤ 1000 + i → Ev (fun k => impl_PlanUnits.l3 k old new run acts o (o.length : Int) (i : Int)) (acts ++ (o.drop i).flatMap (startOf old new run))) ?_ ?_ 0 (by omega)
  · exact key acts (by omega)
  · intro acts _
    refine Ev.step ?_
    simp only [impl_PlanUnits.l3, List.drop_length, List.flatMap_nil, List.append_nil]
    exact Ev.neg (by omega) Ev.pure
  · intro i hi ih acts hl
    have hin := hm _ (List.getElem_mem hi)
    obtain ⟨t, ts, ti, ta⟩ := find_ev new (by omega) (o[i])
    rcases ta with ⟨_, a⟩ | ⟨p, hp, rfl, e⟩
    · exact absurd hin a
    obtain ⟨q, qs, qi, qa⟩ := find_ev old (by omega) (o[i])
    have hf : (o.drop i).flatMap (startOf old new run) = startOf old new run o[i] ++ (o.drop (i + 1)).flatMap (startOf old new run) := by rw [List.drop_eq_getElem_cons hi, List.flatMap_cons]
    rw [hf]
    have skip : startOf old new run o[i] = [] → Ev (fun k => impl_PlanUnits.l3 k old new run acts o (o.length : Int) ((i + 1 : Nat) : Int)) (acts ++ (startOf old new run o[i] ++ (o.drop (i + 1)).flatMap (startOf old new run))) := by
      intro e
      rw [e, List.nil_append]
      exact ih acts (by omega)
    have put : ∀ x : S62, startOf old new run o[i] = [x] → Ev (fun k => impl_PlanUnits.l3 k old new run (acts ++ [x]) o (o.length : Int) ((i + 1 : Nat) : Int)) (acts ++ (startOf old new run o[i] ++ (o.drop (i + 1)).flatMap (startOf old new run))) := by
      intro x e
      rw [e, ← List.append_assoc]
      exact ih _ (by simp; omega)
    refine Ev.step ?_
    simp only [impl_PlanUnits.l3, rdStr o i hi, upN i (by omega)]
    refine Ev.pos (by omega) (Ev.pos (by omega) (Ev.pos (by omega) (Ev.bind ti (Ev.pos (by omega) (Ev.pos (by omega) (Ev.bind (inList_ev run o[i] (by omega)) ?_))))))
    by_cases c : hasW run o[i] = true
    · refine Ev.pos c (Ev.bind qi ?_)
      rcases qa with ⟨a, b⟩ | ⟨j, hj, rfl, f⟩
      · refine Ev.neg (by omega) (skip ?_)
        unfold startOf
        rw [if_pos c, again_no b]
        rfl
      · have hg := again_at hold hnew hj hp (f.trans e.symm)
        rw [e] at hg
        simp only [rd55 new p hp, rd55 old j hj]
        refine Ev.pos (by omega) (Ev.pos (by omega) (Ev.pos (by omega) ?_))
        by_cases d : ((old[j]).f3).toList = ((new[p]).f3).toList
        · refine Ev.pos d (skip ?_)
          unfold startOf
          rw [if_pos c, hg, decide_eq_true d]
          rfl
        · refine Ev.neg d ?_
          by_cases g : (new[p]).f4 = true
          · refine Ev.pos g (skip ?_)
            unfold startOf
            rw [if_pos c, hg, g]
            simp
          · refine Ev.neg g (Ev.pos (by omega) (put _ ?_))
            unfold startOf
            rw [if_pos c, hg, decide_eq_false d, Bool.eq_false_iff.mpr g]
            rfl
    · refine Ev.neg c (Ev.pos (by omega) (put _ ?_))
      unfold startOf
      rw [if_neg c]
theorem implPlan2_ev (old new : List S55) (hold : UOk old) (hnew : UOk new) (hO : Ev (fun k => impl_startOrder.f k new) (ordered new)) (run : List ByteArray) (hr : run.length ≤ 2000) (l : List ByteArray) (hl : l.length ≤ 200) :
    Ev (fun k => impl_PlanUnits.l2 k old new run [] l (l.length : Int) 0) (stopOf new run l ++ (ordered new).flatMap (startOf old new run)) := by
  have n1 := hnew.len
  have n3 := ordered_len new
  have key := downTo l.length (fun i => ∀ acts : List S62, acts.length ≤ i → Ev (fun k => impl_PlanUnits.l2 k old new run acts l (l.length : Int) (i : Int)) (acts ++ (stopOf new run (l.drop i) ++ (ordered new).flatMap (startOf old new run)))) ?_ ?_ 0 (by omega)
  · simpa using key [] (by simp)
  · intro acts hx
    refine Ev.step ?_
    simp only [impl_PlanUnits.l2]
    rw [List.drop_length, show stopOf new run [] = [] from rfl, List.nil_append]
    exact Ev.neg (by omega) (Ev.bind hO (implPlan3_ev old new hold hnew run hr (ordered new) (by omega) (ordered_mem new) acts (by omega)))
  · intro i hi ih acts hx
    obtain ⟨t, ts, ti, ta⟩ := find_ev new (by omega) (l[i])
    have hh := isAt_has ta
    rw [stopOf_drop new run l i hi]
    refine Ev.step ?_
    simp only [impl_PlanUnits.l2, rdStr l i hi, upN i (by omega)]
    refine Ev.pos (by omega) (Ev.pos (by omega) (Ev.pos (by omega) (Ev.bind (inList_ev run l[i] (by omega)) ?_)))
    by_cases c : hasW run l[i] = true
    · refine Ev.pos c (Ev.bind ti ?_)
      by_cases d : t < 0
      · refine Ev.pos d (Ev.pos (by omega) ?_)
        rw [if_pos ⟨c, hh.1 d⟩, List.append_assoc, ← List.append_assoc]
        exact ih _ (by simp; omega)
      · refine Ev.neg d ?_
        rw [if_neg (fun e => d (hh.2 e.2)), List.nil_append]
        exact ih acts (by omega)
    · refine Ev.neg c ?_
      rw [if_neg (fun e => c e.1), List.nil_append]
      exact ih acts (by omega)
theorem implPlan1_ev (old new : List S55) (hold : UOk old) (hnew : UOk new) (hO : Ev (fun k => impl_startOrder.f k new) (ordered new)) (run : List ByteArray) (hr : run.length ≤ 2000) (o : List ByteArray) (ho : o.length ≤ 100) :
    ∀ (i : Nat) (l : List ByteArray), i ≤ o.length → l.length + i ≤ 200 → Ev (fun k => impl_PlanUnits.l1 k old new run [] o l ((i : Int) - 1)) (stopOf new run (l ++ (o.take i).reverse) ++ (ordered new).flatMap (startOf old new run)) := by
  intro i
  induction i with
  | zero =>
    intro l _ hl
    refine Ev.step ?_
    simp only [impl_PlanUnits.l1, List.take_zero, List.reverse_nil, List.append_nil]
    exact Ev.neg (by omega) (implPlan2_ev old new hold hnew hO run hr l (by omega))
  | succ i ih =>
    intro l hi hl
    refine Ev.step ?_
    simp only [impl_PlanUnits.l1, sub1 i, rdStr o i (by omega), dnI i (by omega)]
    refine Ev.pos (by omega) (Ev.pos (by omega) (Ev.pos (by omega) (Ev.pos (by omega) ?_)))
    rw [rev_take o i (by omega), show l ++ o[i] :: (o.take i).reverse = (l ++ [o[i]]) ++ (o.take i).reverse by simp]
    exact ih (l ++ [o[i]]) (by omega) (by rw [List.length_append, List.length_singleton]; omega)
theorem implPlan0_ev (old new : List S55) (hold : UOk old) (hnew : UOk new) (hO : Ev (fun k => impl_startOrder.f k new) (ordered new)) (run : List ByteArray) (hr : run.length ≤ 2000) (o : List ByteArray) (ho : o.length ≤ 100) :
    ∀ (i : Nat) (l : List ByteArray), i ≤ old.length → l.length + i ≤ 100 → Ev (fun k => impl_PlanUnits.l0 k old new run [] o l ((i : Int) - 1)) (stopOf new run (l ++ restOf o (old.take i) ++ o.reverse) ++ (ordered new).flatMap (startOf old new run)) := by
  have n2 := hold.len
  intro i
  induction i with
  | zero =>
    intro l _ hl
    refine Ev.step ?_
    simp only [impl_PlanUnits.l0, dnI o.length (by omega)]
    have := implPlan1_ev old new hold hnew hO run hr o ho o.length l (Nat.le_refl _) (by omega)
    rw [List.take_length] at this
    rw [show restOf o (old.take 0) = [] by simp [restOf], List.append_nil]
    exact Ev.neg (by omega) this
  | succ i ih =>
    intro l hi hl
    refine Ev.step ?_
    simp only [impl_PlanUnits.l0, sub1 i, rd55 old i (by omega), dnI i (by omega)]
    refine Ev.pos (by omega) (Ev.pos (by omega) (Ev.pos (by omega) (Ev.bind (inList_ev o _ (by omega)) ?_)))
    rw [restOf_take o old i (by omega)]
    by_cases c : hasW o (old[i]).f0 = true
    · refine Ev.pos c ?_
      rw [if_pos c, List.nil_append]
      exact ih l (by omega) (by omega)
    · refine Ev.neg c (Ev.pos (by omega) ?_)
      rw [if_neg c, ← List.append_assoc]
      exact ih _ (by omega) (by simp; omega)
theorem specPlan_ev (old new : List S55) (run : List ByteArray) (b c : Bool) (hb : Ev (fun k => spec_UnitsOk.f k old) b) (hc : Ev (fun k => spec_UnitsOk.f k new) c) (ho : b = true → UOk old) (hn : c = true → UOk new) :
    Ev (fun k => spec_PlanUnits.f k old new run) (if b = true ∧ c = true ∧ run.length ≤ 2000 then planU old new run else []) := by
  unfold spec_PlanUnits.f
  refine Ev.cons rfl (Ev.bind hb ?_)
  by_cases d : b = true
  · refine Ev.pos d (Ev.bind hc ?_)
    by_cases e : c = true
    · refine Ev.pos e (Ev.step ?_)
      simp only [spec_PlanUnits.j0]
      by_cases f : run.length ≤ 2000
      · rw [if_pos ⟨d, e, f⟩]
        have n2 := (ho d).len
        have n3 := ordered_len old
        have h1 := specOrder_ev old b hb ho
        have h2 := specOrder_ev new c hc hn
        rw [if_pos d] at h1
        rw [if_pos e] at h2
        have key := specPlan0_ev old new (ho d) (hn e) h2 run f (ordered old) (by omega) old.length [] (Nat.le_refl _) (by simp; omega)
        rw [List.take_length, List.nil_append] at key
        refine Ev.neg (by simp; omega) (Ev.bind h1 ?_)
        rw [dnI old.length (by omega)]
        exact key
      · rw [if_neg (fun g => f g.2.2)]
        exact Ev.pos (by simp; omega) Ev.pure
    · rw [if_neg (fun g => e g.2.1)]
      refine Ev.neg e (Ev.step ?_)
      simp only [spec_PlanUnits.j0]
      exact Ev.pos trivial Ev.pure
  · rw [if_neg (fun g => d g.1)]
    refine Ev.neg d (Ev.step ?_)
    simp only [spec_PlanUnits.j0]
    exact Ev.pos trivial Ev.pure
def ZOk (us : List S55) : Prop := ∀ u ∈ us, u.f0.size ≤ 9223372036854775807 ∧ (∀ s ∈ u.f1, s.size ≤ 9223372036854775807) ∧ ∀ s ∈ u.f2, s.size ≤ 9223372036854775807
theorem implPlan_ev (old new : List S55) (run : List ByteArray) (b c : Bool) (hb : Ev (fun k => impl_UnitsOk.f k old) b) (hc : Ev (fun k => impl_UnitsOk.f k new) c) (zo : ZOk old) (zn : ZOk new) :
    Ev (fun k => impl_PlanUnits.f k old new run) (if b = true ∧ c = true ∧ run.length ≤ 2000 then planU old new run else []) := by
  unfold impl_PlanUnits.f
  refine Ev.bind hb ?_
  by_cases d : b = true
  · refine Ev.pos d (Ev.bind hc ?_)
    by_cases e : c = true
    · refine Ev.pos e (Ev.step ?_)
      simp only [impl_PlanUnits.j0]
      by_cases f : run.length ≤ 2000
      · rw [if_pos ⟨d, e, f⟩]
        have ho := UOk_of (d ▸ hb)
        have hn := UOk_of (e ▸ hc)
        have n2 := ho.len
        have n3 := ordered_len old
        have h1 := implOrder_ev old ho zo
        have h2 := implOrder_ev new hn zn
        have key := implPlan0_ev old new ho hn h2 run f (ordered old) (by omega) old.length [] (Nat.le_refl _) (by simp; omega)
        rw [List.take_length, List.nil_append] at key
        refine Ev.neg (by simp; omega) (Ev.bind h1 ?_)
        rw [dnI old.length (by omega)]
        exact key
      · rw [if_neg (fun g => f g.2.2)]
        exact Ev.pos (by simp; omega) Ev.pure
    · rw [if_neg (fun g => e g.2.1)]
      refine Ev.neg e (Ev.step ?_)
      simp only [impl_PlanUnits.j0]
      exact Ev.pos trivial Ev.pure
  · rw [if_neg (fun g => d g.1)]
    refine Ev.neg d (Ev.step ?_)
    simp only [impl_PlanUnits.j0]
    exact Ev.pos trivial Ev.pure
theorem planU_len (old new : List S55) (run : List ByteArray) (ho : UOk old) (hn : UOk new) : (planU old new run).length ≤ 1000 := by
  have n1 := ho.len
  have n2 := hn.len
  have n3 := ordered_len old
  have n4 := ordered_len new
  have n5 := restOf_len (ordered old) old
  have a : (stopOf new run (stopsU old)).length ≤ 200 := by
    unfold stopOf stopsU
    rw [List.length_map]
    refine Nat.le_trans (List.length_filter_le _ _) ?_
    rw [List.length_append, List.length_reverse]
    omega
  have b : ((ordered new).flatMap (startOf old new run)).length ≤ 100 := by
    have : ∀ l : List ByteArray, (l.flatMap (startOf old new run)).length ≤ l.length := by
      intro l
      induction l with
      | nil => simp
      | cons s l ih =>
        rw [List.flatMap_cons, List.length_append, List.length_cons]
        have : (startOf old new run s).length ≤ 1 := by
          unfold startOf
          split
          · split <;> simp
          · simp
        omega
    exact Nat.le_trans (this _) (by omega)
  unfold planU
  rw [List.length_append]
  omega

-- EvP
/-- With fuel enough the run answers something that is P. -/
def EvP {α : Type} (P : α → Prop) (f : Nat → Option α) : Prop := ∃ r, P r ∧ Ev f r
theorem EvP.step {α : Type} {P : α → Prop} {f : Nat → Option α} (h : EvP P (fun k => f (k + 1))) : EvP P f := h.imp fun _ h => ⟨h.1, Ev.step h.2⟩
theorem EvP.pos {α : Type} {P : α → Prop} {c : Prop} [Decidable c] {f g : Nat → Option α} (hc : c) (h : EvP P f) : EvP P (fun k => if c then f k else g k) := h.imp fun _ h => ⟨h.1, Ev.pos hc h.2⟩
theorem EvP.neg {α : Type} {P : α → Prop} {c : Prop} [Decidable c] {f g : Nat → Option α} (hc : ¬ c) (h : EvP P g) : EvP P (fun k => if c then f k else g k) := h.imp fun _ h => ⟨h.1, Ev.neg hc h.2⟩
theorem EvP.cons {α β : Type} {P : β → Prop} {x : Option α} {g : Nat → α → Option β} {a : α} (h : x = some a) (h2 : EvP P (fun k => g k a)) : EvP P (fun k => x.bind (g k)) := h2.imp fun _ h2 => ⟨h2.1, Ev.cons h h2.2⟩
theorem EvP.bind {α β : Type} {P : β → Prop} {f : Nat → Option α} {g : Nat → α → Option β} {a : α} (h : Ev f a) (h2 : EvP P (fun k => g k a)) : EvP P (fun k => (f k).bind (g k)) := h2.imp fun _ h2 => ⟨h2.1, Ev.bind h h2.2⟩
theorem EvP.pure {α : Type} {P : α → Prop} {r : α} (h : P r) : EvP P (fun _ => some r) := ⟨r, h, Ev.pure⟩

-- Digit
theorem l2Int_1 (b : Int) (h0 : 0 ≤ b) (h1 : b ≤ 9) : ∃ s : ByteArray, s.size ≤ 1000 ∧ Ev (fun k => spec_l2Int.f k b) s := by
  refine ⟨(strOfNums [(wrap64 (48 + b)) % 256]) ++ (⟨#[]⟩ : ByteArray), ?_, ?_⟩
  · rw [ByteArray.size_append, strOfNums_size]
    show 1 + 0 ≤ 1000
    omega
  · unfold spec_l2Int.f
    refine Ev.step ?_
    simp only [spec_l2Int.l0]
    refine Ev.neg (by omega) (Ev.cons rfl (Ev.pos ?_ Ev.pure))
    rw [strOfNums_size]
    show 1 + 0 ≤ 9223372036854775807
    omega

-- Draw1
theorem and255 (x : Int) : 0 ≤ Go.bits .and .i64 x 255 ∧ Go.bits .and .i64 x 255 ≤ 255 := by
  unfold Go.bits
  have h : ((BitVec.ofInt IntKind.i64.bits x) &&& (BitVec.ofInt IntKind.i64.bits 255)).toNat ≤ 255 := by
    rw [BitVec.toNat_and]
    exact Nat.le_trans Nat.and_le_right (by decide)
  simp only []
  rw [i64w _ (by omega) (by omega)]
  omega
theorem l1New_f (l : List Int) (hl : l.length ≤ 1048576) : ∃ h, ∀ k, l.length < k → spec_l1New.f k l = some (l, 0, h) := by
  have key : ∀ (d : Nat) (h i : Int), 0 ≤ i → i ≤ l.length → (l.length : Int) - i = d → ∃ h', ∀ k, d < k → spec_l1New.l0 k l h i = some (l, 0, h') := by
    intro d
    induction d with
    | zero =>
      intro h i h0 h1 hd
      refine ⟨h, fun k hk => ?_⟩
      obtain ⟨k, rfl⟩ : ∃ m, k = m + 1 := ⟨k - 1, by omega⟩
      simp only [spec_l1New.l0]; rw [if_neg (by omega)]
    | succ d ih =>
      intro h i h0 h1 hd
      obtain ⟨h', hh⟩ := ih (Go.bits .and .i64 (wrap64 ((wrap64 ((wrap64 (h * 139)) + (wrap64 (rd l i)))) + 13)) 1073741823) (i + 1) (by omega) (by omega) (by omega)
      refine ⟨h', fun k hk => ?_⟩
      obtain ⟨k, rfl⟩ : ∃ m, k = m + 1 := ⟨k - 1, by omega⟩
      simp only [spec_l1New.l0]; rw [if_pos (by omega), if_pos h0, up1 i h0 (by omega)]
      exact hh k (by omega)
  exact key l.length (wrap64 (57731 + (l.length : Int))) 0 (by omega) (by omega) (by omega)
theorem l1Byte_f (l : List Int) (hl : l.length ≤ 1048576) (i h : Int) (h0 : 0 ≤ i) (h1 : i ≤ l.length) : ∃ b i' h' : Int, 0 ≤ b ∧ b ≤ 255 ∧ 0 ≤ i' ∧ i' ≤ l.length ∧ spec_l1Byte.f l i h = some (b, i', h') := by
  unfold spec_l1Byte.f
  by_cases hc : i < (l.length : Int)
  · rw [if_pos hc, if_pos h0, up1 i h0 (by omega)]
    exact ⟨_, _, _, (and255 _).1, (and255 _).2, by omega, by omega, rfl⟩
  · rw [if_neg hc]
    exact ⟨_, _, _, (and255 _).1, (and255 _).2, h0, h1, rfl⟩
theorem l1Below_f (l : List Int) (hl : l.length ≤ 1048576) (i h n : Int) (h0 : 0 ≤ i) (h1 : i ≤ l.length) : ∃ b i' h' : Int, 0 ≤ b ∧ (0 < n → b < n) ∧ (n ≤ 0 → b = 0) ∧ 0 ≤ i' ∧ i' ≤ l.length ∧ spec_l1Below.f l i h n = some (b, i', h') := by
  unfold spec_l1Below.f
  by_cases hn : n ≤ 0
  · rw [if_pos hn]; exact ⟨0, i, h, by omega, by omega, fun _ => rfl, h0, h1, rfl⟩
  · rw [if_neg hn]
    obtain ⟨b1, i1, g1, a0, a1, c0, c1, e1⟩ := l1Byte_f l hl i h h0 h1
    rw [e1]
    simp only [Option.bind_some]
    by_cases h256 : n ≤ 256
    · rw [if_pos h256, if_neg (by omega), Int.tmod_eq_emod_of_nonneg a0]
      exact ⟨_, _, _, Int.emod_nonneg _ (by omega), fun hp => Int.emod_lt_of_pos _ hp, by omega, c0, c1, rfl⟩
    · rw [if_neg h256]
      obtain ⟨b2, i2, g2, a2, a3, c2, c3, e2⟩ := l1Byte_f l hl i1 g1 c0 c1
      rw [e2]
      simp only [Option.bind_some]
      obtain ⟨b3, i3, g3, a4, a5, c4, c5, e3⟩ := l1Byte_f l hl i2 g2 c2 c3
      rw [e3]
      simp only [Option.bind_some]
      obtain ⟨b4, i4, g4, a6, a7, c6, c7, e4⟩ := l1Byte_f l hl i3 g3 c4 c5
      rw [e4]
      simp only [Option.bind_some]
      rw [if_neg (by omega), w64 (b1 * 16777216) (by omega) (by omega), w64 (b2 * 65536) (by omega) (by omega), w64 (b3 * 256) (by omega) (by omega), w64 (b1 * 16777216 + b2 * 65536) (by omega) (by omega),
        w64 (b1 * 16777216 + b2 * 65536 + b3 * 256) (by omega) (by omega), w64 (b1 * 16777216 + b2 * 65536 + b3 * 256 + b4) (by omega) (by omega), Int.tmod_eq_emod_of_nonneg (by omega)]
      exact ⟨_, _, _, Int.emod_nonneg _ (by omega), fun hp => Int.emod_lt_of_pos _ hp, by omega, c6, c7, rfl⟩
theorem l1Once_f (l : List Int) (hl : l.length ≤ 1048576) (i h n : Int) (h0 : 0 ≤ i) (h1 : i ≤ l.length) : ∃ (b : Bool) (i' h' : Int), 0 ≤ i' ∧ i' ≤ l.length ∧ spec_l1Once.f l i h n = some (b, i', h') := by
  unfold spec_l1Once.f
  obtain ⟨b1, i1, g1, _, _, _, c0, c1, e1⟩ := l1Below_f l hl i h n h0 h1
  rw [e1]
  exact ⟨_, _, _, c0, c1, rfl⟩

-- DrawU
/-- What a drawn unit is. -/
def DU (u : S55) : Prop := u.f0.size ≤ 1000 ∧ u.f1.length ≤ 1000 ∧ u.f2.length ≤ 1000 ∧ (∀ s ∈ u.f2, s.size ≤ 1000) ∧ ∀ s ∈ u.f1, s.size ≤ 1000
/-- What a draw of units leaves. -/
def DQ (l : List Int) (r : List S55 × Int × Int) : Prop := r.1.length ≤ 6 ∧ (∀ u ∈ r.1, DU u) ∧ 0 ≤ r.2.1 ∧ r.2.1 ≤ l.length
def AL : List ByteArray := [(⟨#[97]⟩ : ByteArray), (⟨#[98]⟩ : ByteArray), (⟨#[99]⟩ : ByteArray), (⟨#[100]⟩ : ByteArray), (⟨#[101]⟩ : ByteArray), (⟨#[102]⟩ : ByteArray)]
theorem AL_len : (AL.length : Int) = 6 := rfl
theorem AL_rd (i : Nat) (h : i < 6) : (rdOf ByteArray.empty AL (i : Int)).size ≤ 1000 := by
  rw [rdStr AL i h]
  have : ∀ s ∈ AL, s.size ≤ 1000 := by
    intro s hs
    simp only [AL, List.mem_cons, List.not_mem_nil, or_false] at hs
    rcases hs with rfl | rfl | rfl | rfl | rfl | rfl
    all_goals decide
  exact this _ (List.getElem_mem _)
theorem DQ_set {l : List Int} {us : List S55} {n : Nat} {v : S55} {i h : Int} (hn : us.length ≤ 6) (hu : ∀ u ∈ us, DU u) (hv : DU v) (h0 : 0 ≤ i) (h1 : i ≤ l.length) : DQ l (us.set n v, i, h) := by
  refine ⟨by simpa using hn, fun u hu' => ?_, h0, h1⟩
  rcases List.mem_or_eq_of_mem_set hu' with hu' | rfl
  · exact hu u hu'
  · exact hv
def NQ (l : List Int) (r : List ByteArray × Int × Int) : Prop := r.1.length ≤ 7 ∧ (∀ s ∈ r.1, s.size ≤ 1000) ∧ 0 ≤ r.2.1 ∧ r.2.1 ≤ l.length
theorem l18Last_f (l : List Int) (hl : l.length ≤ 1048576) (us : List S55) (hn : us.length ≤ 6) (hu : ∀ u ∈ us, DU u) (b : Bool) (hb : b = true → 0 < us.length) (i h : Int) (h0 : 0 ≤ i) (h1 : i ≤ l.length) : EvP (DQ l) (fun k => spec_l18Draw.j4 k us b l i h) := by
  refine EvP.step ?_
  simp only [spec_l18Draw.j4]
  by_cases c : b = true
  · obtain ⟨t, i1, g1, t0, t1, _, c0, c1, e1⟩ := l1Below_f l hl i h (us.length : Int) h0 h1
    have t1' := t1 (by have := hb c; omega)
    obtain ⟨n, rfl⟩ : ∃ n : Nat, t = (n : Int) := ⟨t.toNat, by omega⟩
    obtain ⟨d, i2, g2, d0, d1, _, c2, c3, e2⟩ := l1Below_f l hl i1 g1 4 c0 c1
    have hr := rd55 us n (by omega)
    have hd : DU (rd_T55 us (n : Int)) := by
      rw [hr]
      exact hu _ (List.getElem_mem _)
    obtain ⟨a0, a1, a2, a3, a4⟩ := hd
    refine EvP.pos c (EvP.cons e1 (EvP.pos t0 (EvP.pos t1' (EvP.cons e2 ?_))))
    by_cases q0 : d = 0
    · exact EvP.pos q0 (EvP.pure (DQ_set hn hu ⟨by show (1 : Nat) ≤ 1000; omega, a1, a2, a3, a4⟩ c2 c3))
    refine EvP.neg q0 ?_
    by_cases q1 : d = 1
    · exact EvP.pos q1 (EvP.pure (DQ_set hn hu ⟨a0, by show (2 : Nat) ≤ 1000; omega, a2, a3, fun s hs => by
        simp only [List.mem_cons, List.not_mem_nil, or_false] at hs
        rcases hs with rfl | rfl
        all_goals decide⟩ c2 c3))
    refine EvP.neg q1 ?_
    by_cases q2 : d = 2
    · exact EvP.pos q2 (EvP.pure (DQ_set hn hu ⟨a0, a1, by show (1 : Nat) ≤ 1000; omega, fun s hs => by
        rw [List.mem_singleton.1 hs]
        decide, a4⟩ c2 c3))
    refine EvP.neg q2 ?_
    by_cases q3 : d = 3
    · obtain ⟨e, i3, g3, f0, f1, _, c4, c5, e3⟩ := l1Below_f l hl i2 g2 2 c2 c3
      have f1' := f1 (by omega)
      have hw : wrap64 (4000 + e) = 4000 + e := w64 _ (by omega) (by omega)
      refine EvP.pos q3 (EvP.cons e3 ?_)
      simp only [hw]
      exact EvP.pos (by omega) (EvP.pos (by omega) (EvP.pure (DQ_set hn hu ⟨a0, a1, a2, a3, a4⟩ c4 c5)))
    exact EvP.neg q3 (EvP.pure ⟨hn, hu, c2, c3⟩)
  · exact EvP.neg c (EvP.pure ⟨hn, hu, h0, h1⟩)
theorem l18Draw_f (l : List Int) (hl : l.length ≤ 1048576) (i h : Int) (h0 : 0 ≤ i) (h1 : i ≤ l.length) : EvP (DQ l) (fun k => spec_l18Draw.f k l i h) := by
  unfold spec_l18Draw.f
  have outer := downTo 6 (fun n => ∀ (us : List S55) (i h : Int), us.length ≤ n → (∀ u ∈ us, DU u) → 0 ≤ i → i ≤ l.length → EvP (DQ l) (fun k => spec_l18Draw.l0 k us AL (n : Int) l i h)) ?_ ?_ 0 (by omega)
  · exact outer [] i h (by simp) (by simp) h0 h1
  · intro us i h hn hu h0 h1
    obtain ⟨b, i1, g1, c0, c1, e1⟩ := l1Once_f l hl i h 14 h0 h1
    refine EvP.step ?_
    simp only [spec_l18Draw.l0]
    refine EvP.neg (by rw [AL_len]; omega) (EvP.cons e1 ?_)
    by_cases c : b = true
    · exact EvP.pos c (l18Last_f l hl us hn hu _ (fun e => by have := of_decide_eq_true e; omega) i1 g1 c0 c1)
    · exact EvP.neg c (l18Last_f l hl us hn hu _ (fun e => by cases e) i1 g1 c0 c1)
  · intro n hn ih us i h hnu hu h0 h1
    obtain ⟨b, i1, g1, c0, c1, e1⟩ := l1Once_f l hl i h 4 h0 h1
    refine EvP.step ?_
    simp only [spec_l18Draw.l0, upN n (by omega)]
    refine EvP.pos (by rw [AL_len]; omega) (EvP.cons e1 ?_)
    by_cases c : b = true
    · exact EvP.pos c (ih us i1 g1 (by omega) hu c0 c1)
    refine EvP.neg c (EvP.pos (by omega) ?_)
    obtain ⟨x, i2, g2, x0, x1, _, c2, c3, e2⟩ := l1Below_f l hl i1 g1 2 c0 c1
    obtain ⟨s, s0, s1⟩ := l2Int_1 x x0 (by have := x1 (by omega); omega)
    obtain ⟨kp, i3, g3, c4, c5, e3⟩ := l1Once_f l hl i2 g2 4 c2 c3
    refine EvP.cons e2 (EvP.bind s1 (EvP.pos (by omega) (EvP.cons e3 ?_)))
    have hnm := AL_rd n hn
    show EvP (DQ l) (fun k => spec_l18Draw.l1 k us AL (n : Int) 0 l i3 g3 (rdOf ByteArray.empty AL (n : Int)) [] [] ((⟨#[114, 117, 110, 32]⟩ : ByteArray) ++ s) kp)
    generalize ((⟨#[114, 117, 110, 32]⟩ : ByteArray) ++ s) = ex
    generalize rdOf ByteArray.empty AL (n : Int) = nm at hnm
    clear s0 s1 e1 e2 e3
    have inner := downTo 6 (fun m => ∀ (f1 f2 : List ByteArray) (i h : Int), f1.length ≤ m → f2.length ≤ m → (∀ s ∈ f2, s.size ≤ 1000) → (∀ s ∈ f1, s.size ≤ 1000) → 0 ≤ i → i ≤ l.length → EvP (DQ l) (fun k => spec_l18Draw.l1 k us AL (n : Int) (m : Int) l i h nm f1 f2 ex kp)) ?_ ?_ 0 (by omega)
    · exact inner [] [] i3 g3 (by simp) (by simp) (by simp) (by simp) c4 c5
    · intro f1 f2 i h a1 a2 a3 a4 h0 h1
      refine EvP.step ?_
      simp only [spec_l18Draw.l1, upN n (by omega)]
      refine EvP.neg (by rw [AL_len]; omega) (EvP.pos (by omega) (ih _ i h (by simp; omega) ?_ h0 h1))
      intro u hu'
      rcases List.mem_append.1 hu' with hu' | hu'
      · exact hu u hu'
      · rw [List.mem_singleton.1 hu']
        exact ⟨hnm, by show f1.length ≤ 1000; omega, by show f2.length ≤ 1000; omega, a3, a4⟩
    · intro m hm ih2
      have hmm := AL_rd m hm
      have third : ∀ (f1 f2 : List ByteArray) (i h : Int), f1.length ≤ m + 1 → f2.length ≤ m → (∀ s ∈ f2, s.size ≤ 1000) → (∀ s ∈ f1, s.size ≤ 1000) → 0 ≤ i → i ≤ l.length → EvP (DQ l) (fun k => spec_l18Draw.j3 k us AL (n : Int) (m : Int) l i h nm f1 f2 ex kp) := by
        intro f1 f2 i h a1 a2 a3 a4 h0 h1
        obtain ⟨b, i1, g1, c0, c1, e1⟩ := l1Once_f l hl i h 6 h0 h1
        have put : ∀ (i h : Int), 0 ≤ i → i ≤ l.length → EvP (DQ l) (fun k => spec_l18Draw.l1 k us AL (n : Int) ((m + 1 : Nat) : Int) l i h nm f1 (f2 ++ [rdOf ByteArray.empty AL (m : Int)]) ex kp) := fun i h h0 h1 => ih2 _ _ i h a1 (by simp; omega) (fun s hs => by
          rcases List.mem_append.1 hs with hs | hs
          · exact a3 s hs
          · rw [List.mem_singleton.1 hs]
            exact hmm) a4 h0 h1
        refine EvP.step ?_
        simp only [spec_l18Draw.j3, upN m (by omega)]
        refine EvP.cons e1 ?_
        by_cases c : b = true
        · refine EvP.pos c ?_
          by_cases d : (m : Int) < (n : Int)
          · exact EvP.pos d (EvP.pos (by omega) (EvP.pos (by rw [AL_len]; omega) (EvP.pos (by omega) (put i1 g1 c0 c1))))
          · obtain ⟨b2, i2, g2, c2, c3, e2⟩ := l1Once_f l hl i1 g1 6 c0 c1
            refine EvP.neg d (EvP.cons e2 ?_)
            by_cases e : b2 = true
            · exact EvP.pos e (EvP.pos (by omega) (EvP.pos (by rw [AL_len]; omega) (EvP.pos (by omega) (put i2 g2 c2 c3))))
            · exact EvP.neg e (ih2 _ _ i2 g2 a1 (by omega) a3 a4 c2 c3)
        · exact EvP.neg c (ih2 _ _ i1 g1 a1 (by omega) a3 a4 c0 c1)
      have second : ∀ (x : Bool) (f1 f2 : List ByteArray) (i h : Int), f1.length ≤ m → f2.length ≤ m → (∀ s ∈ f2, s.size ≤ 1000) → (∀ s ∈ f1, s.size ≤ 1000) → 0 ≤ i → i ≤ l.length → EvP (DQ l) (fun k => spec_l18Draw.j2 k us AL (n : Int) (m : Int) x l i h nm f1 f2 ex kp) := by
        intro x f1 f2 i h a1 a2 a3 a4 h0 h1
        refine EvP.step ?_
        simp only [spec_l18Draw.j2]
        by_cases c : x = true
        · exact EvP.pos c (EvP.pos (by omega) (EvP.pos (by rw [AL_len]; omega) (EvP.pos (by omega) (third _ f2 i h (by simp; omega) a2 a3 (fun s hs => by
            rcases List.mem_append.1 hs with hs | hs
            · exact a4 s hs
            · rw [List.mem_singleton.1 hs]
              exact hmm) h0 h1))))
        · exact EvP.neg c (third f1 f2 i h (by omega) a2 a3 a4 h0 h1)
      intro f1 f2 i h a1 a2 a3 a4 h0 h1
      obtain ⟨b, i1, g1, c0, c1, e1⟩ := l1Once_f l hl i h 5 h0 h1
      refine EvP.step ?_
      simp only [spec_l18Draw.l1]
      refine EvP.pos (by rw [AL_len]; omega) (EvP.cons e1 ?_)
      by_cases c : b = true
      · refine EvP.pos c ?_
        by_cases d : (m : Int) < (n : Int)
        · exact EvP.pos d (second true f1 f2 i1 g1 a1 a2 a3 a4 c0 c1)
        · obtain ⟨b2, i2, g2, c2, c3, e2⟩ := l1Once_f l hl i1 g1 5 c0 c1
          exact EvP.neg d (EvP.cons e2 (second b2 f1 f2 i2 g2 a1 a2 a3 a4 c2 c3))
      · exact EvP.neg c (second false f1 f2 i1 g1 a1 a2 a3 a4 c0 c1)
theorem l18Names_f (l : List Int) (hl : l.length ≤ 1048576) (i h : Int) (h0 : 0 ≤ i) (h1 : i ≤ l.length) : EvP (NQ l) (fun k => spec_l18DrawNames.f k l i h) := by
  unfold spec_l18DrawNames.f
  have hA : ∀ s ∈ [(⟨#[97]⟩ : ByteArray), (⟨#[98]⟩ : ByteArray), (⟨#[99]⟩ : ByteArray), (⟨#[100]⟩ : ByteArray), (⟨#[101]⟩ : ByteArray), (⟨#[102]⟩ : ByteArray), (⟨#[122, 122]⟩ : ByteArray)], s.size ≤ 1000 := by
    intro s hs
    simp only [List.mem_cons, List.not_mem_nil, or_false] at hs
    rcases hs with rfl | rfl | rfl | rfl | rfl | rfl | rfl
    all_goals decide
  have hL : [(⟨#[97]⟩ : ByteArray), (⟨#[98]⟩ : ByteArray), (⟨#[99]⟩ : ByteArray), (⟨#[100]⟩ : ByteArray), (⟨#[101]⟩ : ByteArray), (⟨#[102]⟩ : ByteArray), (⟨#[122, 122]⟩ : ByteArray)].length = 7 := rfl
  generalize [(⟨#[97]⟩ : ByteArray), (⟨#[98]⟩ : ByteArray), (⟨#[99]⟩ : ByteArray), (⟨#[100]⟩ : ByteArray), (⟨#[101]⟩ : ByteArray), (⟨#[102]⟩ : ByteArray), (⟨#[122, 122]⟩ : ByteArray)] = A at hA hL
  have key := downTo 7 (fun n => ∀ (us : List ByteArray) (i h : Int), us.length ≤ n → (∀ s ∈ us, s.size ≤ 1000) → 0 ≤ i → i ≤ l.length → EvP (NQ l) (fun k => spec_l18DrawNames.l0 k us A (n : Int) l i h)) ?_ ?_ 0 (by omega)
  · exact key [] i h (by simp) (by simp) h0 h1
  · intro us i h hn hu h0 h1
    refine EvP.step ?_
    simp only [spec_l18DrawNames.l0]
    exact EvP.neg (by omega) (EvP.pure ⟨hn, hu, h0, h1⟩)
  · intro n hn ih us i h hnu hu h0 h1
    obtain ⟨b, i1, g1, c0, c1, e1⟩ := l1Once_f l hl i h 3 h0 h1
    refine EvP.step ?_
    simp only [spec_l18DrawNames.l0, upN n (by omega), rdStr A n (by omega)]
    refine EvP.pos (by omega) (EvP.cons e1 ?_)
    by_cases c : b = true
    · refine EvP.pos c (EvP.pos (by omega) (EvP.pos (by omega) (ih _ i1 g1 (by simp; omega) (fun s hs => ?_) c0 c1)))
      rcases List.mem_append.1 hs with hs | hs
      · exact hu s hs
      · rw [List.mem_singleton.1 hs]
        exact hA _ (List.getElem_mem _)
    · exact EvP.neg c (ih us i1 g1 (by omega) hu c0 c1)

-- LawHas
theorem lawHas_ev (l : List ByteArray) (s : ByteArray) (hl : l.length ≤ 1000000000) : Ev (fun k => laws_has.f k l s) (hasW l s) := by
  unfold laws_has.f
  have key := downTo l.length (fun i => Ev (fun k => laws_has.l0 k l s (i : Int)) (hasW (l.drop i) s)) ?_ ?_ 0 (by omega)
  · simpa using key
  · refine Ev.step ?_
    simp only [laws_has.l0, List.drop_length]
    exact Ev.neg (by omega) Ev.pure
  · intro i hi ih
    refine Ev.step ?_
    simp only [laws_has.l0, rdStr l i hi, upN i (by omega)]
    rw [List.drop_eq_getElem_cons hi]
    refine Ev.pos (by omega) (Ev.pos (by omega) ?_)
    by_cases c : (l[i]).toList = s.toList
    · have e : hasW (l[i] :: l.drop (i + 1)) s = true := by
        unfold hasW
        rw [List.any_cons, decide_eq_true c, Bool.true_or]
      rw [e]
      exact Ev.pos c Ev.pure
    · have e : hasW (l[i] :: l.drop (i + 1)) s = hasW (l.drop (i + 1)) s := by
        unfold hasW
        rw [List.any_cons, decide_eq_false c, Bool.false_or]
      rw [e]
      exact Ev.neg c ih

-- LawUnit
theorem lawUnit_ev (x : List S55) (hx : x.length ≤ 1048576) (s : ByteArray) : ∃ t : Int, Ev (fun k => laws_unit.f k x s) t ∧ isAt x s t := by
  unfold laws_unit.f
  have key := downTo x.length (fun i => ∃ t : Int, Ev (fun k => laws_unit.l0 k x s (i : Int)) t ∧ ((t < 0 ∧ s ∉ namesU (x.drop i)) ∨ ∃ (i : Nat) (h : i < x.length), t = (i : Int) ∧ (x[i]).f0 = s)) ?_ ?_ 0 (by omega)
  · obtain ⟨t, a, c⟩ := key
    exact ⟨t, a, by simpa [isAt] using c⟩
  · refine ⟨-1, Ev.step ?_, .inl ⟨by omega, by simp [namesU]⟩⟩
    simp only [laws_unit.l0]
    exact Ev.neg (by omega) Ev.pure
  · intro i hi ⟨t, a, c⟩
    by_cases d : ((x[i]).f0).toList = s.toList
    · refine ⟨(i : Int), Ev.step ?_, .inr ⟨i, hi, rfl, toList_inj d⟩⟩
      simp only [laws_unit.l0, rd55 x i hi]
      exact Ev.pos (by omega) (Ev.pos (by omega) (Ev.pos d Ev.pure))
    · refine ⟨t, Ev.step ?_, c.imp_left fun e => ⟨e.1, ?_⟩⟩
      · simp only [laws_unit.l0, rd55 x i hi, upN i (by omega)]
        exact Ev.pos (by omega) (Ev.pos (by omega) (Ev.neg d a))
      · rw [List.drop_eq_getElem_cons hi]
        intro h
        rcases List.mem_cons.1 h with h | h
        · exact d (by rw [h])
        · exact e.2 h
theorem okNone : Ev (fun k => impl_UnitsOk.f k []) true := by
  unfold impl_UnitsOk.f
  refine Ev.neg (by simp) (Ev.step ?_)
  simp only [impl_UnitsOk.l0]
  exact Ev.neg (by simp) Ev.pure

-- Rd62
theorem rd62 (l : List S62) (i : Nat) (h : i < l.length) : rd_T62 l (i : Int) = l[i] := by unfold rd_T62; simp [List.getD_eq_getElem?_getD, List.getElem?_eq_getElem h]

-- Acts
theorem insS_le (l : List ByteArray) (s : ByteArray) : (insS l s).length ≤ l.length + 1 := by
  induction l with
  | nil => simp [insS]
  | cons a r ih =>
    unfold insS
    split
    · rw [List.length_cons, List.length_cons]
      omega
    · split
      · omega
      · simp
theorem runGo_all (l : List ByteArray) : ∀ ks : List ByteArray, (runGo ks l).length ≤ ks.length + l.length ∧ (asc ks → asc (runGo ks l)) ∧ ∀ s, s ∈ runGo ks l ↔ s ∈ ks ∨ s ∈ l := by
  induction l with
  | nil => intro ks; simp [runGo]
  | cons a r ih =>
    intro ks
    obtain ⟨h1, h2, h3⟩ := ih (insS ks a)
    have h4 := insS_le ks a
    unfold runGo
    refine ⟨by rw [List.length_cons]; omega, fun h => h2 (asc_insS h a), fun s => ?_⟩
    rw [h3, mem_insS, List.mem_cons, or_assoc]
theorem actsGo_asc (l : List S62) : ∀ ks : List ByteArray, (actsGo ks l).length ≤ ks.length + l.length ∧ (asc ks → asc (actsGo ks l)) := by
  induction l with
  | nil => intro ks; simp [actsGo]
  | cons a r ih =>
    intro ks
    unfold actsGo
    by_cases c : a.f0 = 1
    · rw [if_pos c]
      obtain ⟨h1, h2⟩ := ih (delS ks a.f1)
      have h3 : (delS ks a.f1).length ≤ ks.length := List.length_filter_le _ _
      exact ⟨by rw [List.length_cons]; omega, fun h => h2 (asc_delS h _)⟩
    · rw [if_neg c]
      obtain ⟨h1, h2⟩ := ih (insS ks a.f1)
      have h3 := insS_le ks a.f1
      exact ⟨by rw [List.length_cons]; omega, fun h => h2 (asc_insS h _)⟩
/-- What runs when all has been done, where what is stopped is not what is started. -/
theorem actsGo_mem (D F : ByteArray → Prop) (hd : ∀ s, D s → F s → False) (l : List S62) : (∀ a ∈ l, (a.f0 = 1 ∧ D a.f1) ∨ (a.f0 ≠ 1 ∧ F a.f1)) → ∀ (ks : List ByteArray) (s : ByteArray),
    s ∈ actsGo ks l ↔ (s ∈ ks ∨ ∃ a ∈ l, a.f0 ≠ 1 ∧ a.f1 = s) ∧ ¬ ∃ a ∈ l, a.f0 = 1 ∧ a.f1 = s := by
  induction l with
  | nil => intro _ ks s; simp [actsGo]
  | cons a r ih =>
    intro hl ks s
    have ih := ih (fun x hx => hl x (List.mem_cons_of_mem _ hx))
    unfold actsGo
    rcases hl a List.mem_cons_self with ⟨c, h⟩ | ⟨c, h⟩
    · rw [if_pos c, ih, mem_delS]
      constructor
      · rintro ⟨h1, h2⟩
        have ne : s ≠ a.f1 := by
          rintro rfl
          rcases h1 with h1 | ⟨b, hb, h3, h4⟩
          · exact h1.2 rfl
          · rcases hl b (List.mem_cons_of_mem _ hb) with ⟨e, _⟩ | ⟨_, e⟩
            · exact h3 e
            · exact hd _ h (h4 ▸ e)
        refine ⟨?_, ?_⟩
        · rcases h1 with h1 | ⟨b, hb, h3⟩
          · exact Or.inl h1.1
          · exact Or.inr ⟨b, List.mem_cons_of_mem _ hb, h3⟩
        · rintro ⟨b, hb, h3, h4⟩
          rcases List.mem_cons.1 hb with rfl | hb
          · exact ne h4.symm
          · exact h2 ⟨b, hb, h3, h4⟩
      · rintro ⟨h1, h2⟩
        have ne : s ≠ a.f1 := fun e => h2 ⟨a, List.mem_cons_self, c, e.symm⟩
        refine ⟨?_, fun ⟨b, hb, h3⟩ => h2 ⟨b, List.mem_cons_of_mem _ hb, h3⟩⟩
        rcases h1 with h1 | ⟨b, hb, h3, h4⟩
        · exact Or.inl ⟨h1, ne⟩
        · rcases List.mem_cons.1 hb with rfl | hb
          · exact absurd c h3
          · exact Or.inr ⟨b, hb, h3, h4⟩
    · rw [if_neg c, ih, mem_insS]
      constructor
      · rintro ⟨h1, h2⟩
        refine ⟨?_, ?_⟩
        · rcases h1 with (h1 | rfl) | ⟨b, hb, h3⟩
          · exact Or.inl h1
          · exact Or.inr ⟨a, List.mem_cons_self, c, rfl⟩
          · exact Or.inr ⟨b, List.mem_cons_of_mem _ hb, h3⟩
        · rintro ⟨b, hb, h3, h4⟩
          rcases List.mem_cons.1 hb with rfl | hb
          · exact c h3
          · exact h2 ⟨b, hb, h3, h4⟩
      · rintro ⟨h1, h2⟩
        refine ⟨?_, fun ⟨b, hb, h3⟩ => h2 ⟨b, List.mem_cons_of_mem _ hb, h3⟩⟩
        rcases h1 with h1 | ⟨b, hb, h3, h4⟩
        · exact Or.inl (Or.inl h1)
        · rcases List.mem_cons.1 hb with rfl | hb
          · exact Or.inl (Or.inr h4.symm)
          · exact Or.inr ⟨b, hb, h3, h4⟩

theorem DrawPlan_f (l : List Int) (hl : l.length ≤ 1048576) : ∃ (us vs : List S55) (B : List ByteArray), us.length ≤ 6 ∧ (∀ u ∈ us, DU u) ∧ vs.length ≤ 6 ∧ (∀ u ∈ vs, DU u) ∧ B.length ≤ 7 ∧ (∀ s ∈ B, s.size ≤ 1000) ∧ Ev (fun k => spec_DrawPlanUnits.f k l) (us, vs, B) := by
  obtain ⟨g0, e0⟩ := l1New_f l hl
  obtain ⟨⟨us, i1, g1⟩, ⟨a0, a1, c0, c1⟩, e1⟩ := l18Draw_f l hl 0 g0 (by omega) (by omega)
  obtain ⟨⟨vs, i2, g2⟩, ⟨b0, b1, c2, c3⟩, e2⟩ := l18Draw_f l hl i1 g1 c0 c1
  obtain ⟨⟨B, i3, g3⟩, ⟨d0, d1, _, _⟩, e3⟩ := l18Names_f l hl i2 g2 c2 c3
  refine ⟨us, vs, B, a0, a1, b0, b1, d0, d1, ?_⟩
  unfold spec_DrawPlanUnits.f
  exact Ev.bind (Ev.of (l.length + 1) (fun k hk => e0 k (by omega))) (Ev.bind e1 (Ev.bind e2 (Ev.bind e3 Ev.pure)))
theorem hasU_iff (us : List S55) (s : ByteArray) : hasU us s = true ↔ s ∈ namesU us := by
  unfold hasU
  exact hasW_iff _ _
theorem mem_stopsU (old : List S55) (s : ByteArray) : s ∈ stopsU old ↔ s ∈ namesU old := by
  unfold stopsU restOf
  rw [List.mem_append, List.mem_reverse]
  constructor
  · rintro (h | h)
    · obtain ⟨u, hu, rfl⟩ := List.mem_map.1 h
      exact List.mem_map.2 ⟨u, List.mem_reverse.1 (List.mem_filter.1 hu).1, rfl⟩
    · exact ordered_mem old s h
  · intro h
    by_cases c : s ∈ ordered old
    · exact Or.inr c
    · obtain ⟨u, hu, rfl⟩ := List.mem_map.1 h
      exact Or.inl (List.mem_map.2 ⟨u, List.mem_filter.2 ⟨List.mem_reverse.2 hu, by
        have : hasW (ordered old) u.f0 = false := Bool.eq_false_iff.mpr fun e => c ((hasW_iff _ _).1 e)
        rw [this]
        rfl⟩, rfl⟩)
/-- What is of the old units alone. -/
def Gone (old new : List S55) (s : ByteArray) : Prop := s ∈ namesU old ∧ s ∉ namesU new
theorem plan_stop (old new : List S55) (run : List ByteArray) (a : S62) : a ∈ stopOf new run (stopsU old) ↔ a.f0 = 1 ∧ Gone old new a.f1 ∧ a.f1 ∈ run := by
  unfold stopOf Gone
  rw [List.mem_map]
  constructor
  · rintro ⟨s, hs, rfl⟩
    rw [List.mem_filter, mem_stopsU, Bool.and_eq_true, hasW_iff] at hs
    exact ⟨rfl, ⟨hs.1, fun e => by rw [(hasU_iff new s).2 e] at hs; exact absurd hs.2.2 (by simp)⟩, hs.2.1⟩
  · rintro ⟨h1, ⟨h2, h3⟩, h4⟩
    refine ⟨a.f1, List.mem_filter.2 ⟨(mem_stopsU _ _).2 h2, ?_⟩, by rw [← h1]⟩
    have : hasU new a.f1 = false := Bool.eq_false_iff.mpr fun e => h3 ((hasU_iff _ _).1 e)
    rw [(hasW_iff _ _).2 h4, this]
    rfl
theorem plan_start (old new : List S55) (run : List ByteArray) (a : S62) : a ∈ (ordered new).flatMap (startOf old new run) → (a.f0 = 2 ∧ a.f1 ∉ run ∨ a.f0 = 3 ∧ a.f1 ∈ run) ∧ a.f1 ∈ ordered new := by
  rw [List.mem_flatMap]
  rintro ⟨s, hs, h⟩
  unfold startOf at h
  by_cases c : hasW run s = true
  · rw [if_pos c] at h
    split at h
    · rw [List.mem_singleton.1 h]
      exact ⟨Or.inr ⟨rfl, (hasW_iff _ _).1 c⟩, hs⟩
    · exact absurd h (by simp)
  · rw [if_neg c] at h
    rw [List.mem_singleton.1 h]
    exact ⟨Or.inl ⟨rfl, fun e => c ((hasW_iff _ _).2 e)⟩, hs⟩
theorem start_plan (old new : List S55) (run : List ByteArray) {s : ByteArray} (h : s ∈ ordered new) (hr : s ∉ run) : (⟨2, s⟩ : S62) ∈ (ordered new).flatMap (startOf old new run) := by
  rw [List.mem_flatMap]
  refine ⟨s, h, ?_⟩
  unfold startOf
  rw [if_neg (fun e => hr ((hasW_iff _ _).1 e))]
  exact List.mem_singleton.2 rfl
theorem plan_ok (old new : List S55) (run : List ByteArray) : ∀ a ∈ planU old new run, (a.f0 = 1 ∧ Gone old new a.f1) ∨ (a.f0 ≠ 1 ∧ a.f1 ∈ ordered new) := by
  intro a ha
  unfold planU at ha
  rcases List.mem_append.1 ha with h | h
  · have := (plan_stop old new run a).1 h
    exact Or.inl ⟨this.1, this.2.1⟩
  · obtain ⟨h1, h2⟩ := plan_start old new run a h
    exact Or.inr ⟨by rcases h1 with h1 | h1 <;> omega, h2⟩
def endU (run : List ByteArray) (al : List S62) : List ByteArray := actsGo (runGo [] run) al
theorem endU_asc (run : List ByteArray) (al : List S62) : asc (endU run al) := (actsGo_asc al _).2 ((runGo_all run []).2.1 List.Pairwise.nil)
theorem endU_len (run : List ByteArray) (al : List S62) : (endU run al).length ≤ run.length + al.length := by
  have h1 := (actsGo_asc al (runGo [] run)).1
  have h2 := (runGo_all run []).1
  unfold endU
  simp only [List.length_nil] at h2
  omega
theorem endU_mem (old new : List S55) (run : List ByteArray) (al : List S62) (h : ∀ a ∈ al, (a.f0 = 1 ∧ Gone old new a.f1) ∨ (a.f0 ≠ 1 ∧ a.f1 ∈ ordered new)) (s : ByteArray) :
    s ∈ endU run al ↔ (s ∈ run ∨ ∃ a ∈ al, a.f0 ≠ 1 ∧ a.f1 = s) ∧ ¬ ∃ a ∈ al, a.f0 = 1 ∧ a.f1 = s := by
  unfold endU
  rw [actsGo_mem (Gone old new) (fun s => s ∈ ordered new) (fun s h1 h2 => h1.2 (ordered_mem new s h2)) al h, (runGo_all run []).2.2]
  simp
theorem end_plan (old new : List S55) (run : List ByteArray) (s : ByteArray) : s ∈ endU run (planU old new run) ↔ (s ∈ run ∧ ¬ Gone old new s) ∨ s ∈ ordered new := by
  rw [endU_mem old new run _ (plan_ok old new run)]
  constructor
  · rintro ⟨h1, h2⟩
    rcases h1 with h1 | ⟨a, ha, h3, h4⟩
    · refine Or.inl ⟨h1, fun g => h2 ⟨⟨1, s⟩, ?_, rfl, rfl⟩⟩
      exact List.mem_append_left _ ((plan_stop old new run ⟨1, s⟩).2 ⟨rfl, g, h1⟩)
    · rcases plan_ok old new run a ha with ⟨e, _⟩ | ⟨_, e⟩
      · exact absurd e h3
      · exact Or.inr (h4 ▸ e)
  · intro h
    refine ⟨?_, ?_⟩
    · rcases h with h | h
      · exact Or.inl h.1
      · by_cases c : s ∈ run
        · exact Or.inl c
        · exact Or.inr ⟨⟨2, s⟩, List.mem_append_right _ (start_plan old new run h c), by show (2 : Int) ≠ 1; omega, rfl⟩
    · rintro ⟨a, ha, h3, h4⟩
      have g : Gone old new s := by
        rcases plan_ok old new run a ha with ⟨_, e⟩ | ⟨e, _⟩
        · exact h4 ▸ e
        · exact absurd h3 e
      rcases h with h | h
      · exact h.2 g
      · exact g.2 (ordered_mem new s h)
theorem end_part (old new : List S55) (run : List ByteArray) (n : Nat) : endU (endU run ((planU old new run).take n)) (planU old new (endU run ((planU old new run).take n))) = endU run (planU old new run) := by
  have hp : ∀ a ∈ (planU old new run).take n, (a.f0 = 1 ∧ Gone old new a.f1) ∨ (a.f0 ≠ 1 ∧ a.f1 ∈ ordered new) := fun a ha => plan_ok old new run a (List.mem_of_mem_take ha)
  refine asc_uniq (endU_asc _ _) (endU_asc _ _) fun s => ?_
  rw [end_plan, end_plan, endU_mem old new run _ hp]
  constructor
  · rintro (⟨⟨h1, _⟩, h3⟩ | h)
    · rcases h1 with h1 | ⟨a, ha, h4, h5⟩
      · exact Or.inl ⟨h1, h3⟩
      · rcases hp a ha with ⟨e, _⟩ | ⟨_, e⟩
        · exact absurd e h4
        · exact Or.inr (h5 ▸ e)
    · exact Or.inr h
  · rintro (⟨h1, h2⟩ | h)
    · refine Or.inl ⟨⟨Or.inl h1, ?_⟩, h2⟩
      rintro ⟨a, ha, h4, h5⟩
      rcases hp a ha with ⟨_, e⟩ | ⟨e, _⟩
      · exact h2 (h5 ▸ e)
      · exact e h4
    · exact Or.inr h
theorem plan_again (old new : List S55) (run : List ByteArray) : ∀ a ∈ planU old new (endU run (planU old new run)), a.f0 = 3 := by
  intro a ha
  unfold planU at ha
  rcases List.mem_append.1 ha with h | h
  · obtain ⟨_, g, h2⟩ := (plan_stop old new _ a).1 h
    rcases (end_plan old new run a.f1).1 h2 with h3 | h3
    · exact absurd g h3.2
    · exact absurd (ordered_mem new _ h3) g.2
  · obtain ⟨h1, h2⟩ := plan_start old new _ a h
    rcases h1 with h1 | h1
    · exact absurd ((end_plan old new run a.f1).2 (Or.inr h2)) h1.2
    · exact h1.1
theorem sameTexts_ev (x : List ByteArray) (hx : x.length ≤ 1048576) : Ev (fun k => laws_sameTexts.f k x x) true := by
  unfold laws_sameTexts.f
  refine Ev.pos rfl ?_
  refine countLoop (fun k i => laws_sameTexts.l0 k x x i) x.length true ?_ ?_
  · intro i hi h
    refine Ev.step ?_
    simp only [laws_sameTexts.l0, upN i (by omega)]
    exact Ev.pos (by omega) (Ev.pos (by omega) (Ev.pos (by omega) (Ev.pos trivial h)))
  · refine Ev.step ?_
    simp only [laws_sameTexts.l0]
    exact Ev.neg (by omega) Ev.pure
theorem apply_f (run : List ByteArray) (al : List S62) (h1 : run.length ≤ 2000) (h2 : al.length ≤ 2000) (h3 : ∀ s ∈ run, s.size ≤ 1000) (h4 : ∀ a ∈ al, a.f1.size ≤ 1000) : impl_ApplyActs.f run al = some (endU run al) := by
  unfold impl_ApplyActs.f
  rw [if_neg (by omega), if_pos ⟨List.all_eq_true.2 fun s hs => decide_eq_true (by have := h3 s hs; omega), List.all_eq_true.2 fun a ha => decide_eq_true (by have := h4 a ha; omega)⟩]
  rfl
theorem FnPlanReaches : laws_FnPlanReaches.Pure := by
  intro l more _ _ _ _ _ _
  refine Ev.at ?_
  unfold laws_FnPlanReaches.f
  have early : Ev (fun k => laws_FnPlanReaches.j0 k l more true) true := by
    refine Ev.step ?_
    simp only [laws_FnPlanReaches.j0]
    exact Ev.pos trivial Ev.pure
  refine Ev.cons rfl ?_
  by_cases c : decide ((l.length : Int) > 1048576) = true
  · exact Ev.pos c early
  have hl : l.length ≤ 1048576 := by
    have := of_decide_eq_false (Bool.eq_false_iff.mpr c)
    omega
  refine Ev.neg c (Ev.cons rfl ?_)
  by_cases c2 : decide ((more.length : Int) > 1048576) = true
  · rw [c2]
    exact early
  rw [Bool.eq_false_iff.mpr c2]
  refine Ev.step ?_
  simp only [laws_FnPlanReaches.j0]
  refine Ev.neg (by simp) ?_
  obtain ⟨old, new, run, o0, o1, n0, n1, r0, r1, hd⟩ := DrawPlan_f l hl
  have okd : ∀ {us : List S55}, (∀ u ∈ us, DU u) → ∀ u ∈ us, u.f1.length ≤ 1048576 ∧ u.f2.length ≤ 1048576 := fun h u hu => ⟨by have := (h u hu).2.1; omega, by have := (h u hu).2.2.1; omega⟩
  obtain ⟨b, b1, b2⟩ := UnitsOk_ev old (by omega) (okd o1)
  obtain ⟨d, d1, d2⟩ := UnitsOk_ev new (by omega) (okd n1)
  have zok : ∀ {us : List S55}, (∀ u ∈ us, DU u) → ZOk us := fun h u hu => ⟨by have := (h u hu).1; omega, fun s hs => by have := (h u hu).2.2.2.2 s hs; omega, fun s hs => by have := (h u hu).2.2.2.1 s hs; omega⟩
  have hP := fun (r : List ByteArray) => implPlan_ev old new r b d b2 d2 (zok o1) (zok n1)
  have hS := specPlan_ev old new run b d b1 d1 (fun e => UOk_of (e ▸ b2)) (fun e => UOk_of (e ▸ d2))
  have none1 : Ev (fun k => laws_FnPlanReaches.j1 k more old new run [] true) true := by
    refine Ev.step ?_
    simp only [laws_FnPlanReaches.j1]
    exact Ev.pos trivial (Ev.pos (by simp) (Ev.bind okNone Ev.pure))
  by_cases hbd : b = true ∧ d = true
  · obtain ⟨rfl, rfl⟩ := hbd
    have uo := UOk_of b2
    have un := UOk_of d2
    have nold : ∀ s ∈ namesU old, s.size ≤ 1000 := fun s hs => by
      obtain ⟨u, hu, rfl⟩ := List.mem_map.1 hs
      exact (o1 u hu).1
    have nnew : ∀ s ∈ namesU new, s.size ≤ 1000 := fun s hs => by
      obtain ⟨u, hu, rfl⟩ := List.mem_map.1 hs
      exact (n1 u hu).1
    have psz : ∀ r : List ByteArray, ∀ a ∈ planU old new r, a.f1.size ≤ 1000 := fun r a ha => by
      rcases plan_ok old new r a ha with ⟨_, h, _⟩ | ⟨_, h⟩
      · exact nold _ h
      · exact nnew _ (ordered_mem new _ h)
    have hP0 := hP run
    rw [if_pos ⟨rfl, rfl, by omega⟩] at hP0 hS
    have hpl := planU_len old new run uo un
    have hel := endU_len run (planU old new run)
    have hA := apply_f run (planU old new run) (by omega) (by omega) r1 (psz run)
    have hO := specOrder_ev new true d1 (fun _ => un)
    rw [if_pos rfl] at hO
    have hol := ordered_len new
    refine Ev.bind hd (Ev.bind hP0 (Ev.bind b1 (Ev.pos rfl (Ev.bind d1 (Ev.step ?_)))))
    simp only [laws_FnPlanReaches.j1]
    refine Ev.neg (by simp) (Ev.cons hA (Ev.bind hO ?_))
    have last : ∀ n : Nat, n ≤ (planU old new run).length → Ev (fun k => laws_FnPlanReaches.j4 k old new run (planU old new run) (endU run (planU old new run)) (n : Int)) true := by
      intro n hn
      have hpart := endU_len run ((planU old new run).take n)
      rw [List.length_take] at hpart
      have hA1 := apply_f run ((planU old new run).take n) (by omega) (by rw [List.length_take]; omega) r1 (fun a ha => psz run a (List.mem_of_mem_take ha))
      have hm := endU_mem old new run ((planU old new run).take n) (fun a ha => plan_ok old new run a (List.mem_of_mem_take ha))
      have hsz : ∀ s ∈ endU run ((planU old new run).take n), s.size ≤ 1000 := fun s hs => by
        rcases ((hm s).1 hs).1 with h | ⟨a, ha, _, rfl⟩
        · exact r1 s h
        · exact psz run a (List.mem_of_mem_take ha)
      have he := end_part old new run n
      generalize endU run ((planU old new run).take n) = part at hpart hA1 hsz he
      have hP1 := hP part
      rw [if_pos ⟨rfl, rfl, by omega⟩] at hP1
      have hA2 := apply_f part (planU old new part) (by omega) (by have := planU_len old new part uo un; omega) hsz (psz part)
      rw [he] at hA2
      have hP2 := hP (endU run (planU old new run))
      rw [if_pos ⟨rfl, rfl, by omega⟩] at hP2
      have h3 := plan_again old new run
      have h4 := planU_len old new (endU run (planU old new run)) uo un
      refine Ev.step ?_
      simp only [laws_FnPlanReaches.j4, Int.toNat_natCast]
      refine Ev.pos (by omega) (Ev.pos (by omega) (Ev.cons hA1 (Ev.bind hP1 (Ev.cons hA2 (Ev.bind (sameTexts_ev _ (by omega)) (Ev.pos rfl (Ev.bind hP2 ?_)))))))
      generalize planU old new (endU run (planU old new run)) = Q at h3 h4
      refine countLoop (fun k i => laws_FnPlanReaches.l2 k Q i) Q.length true ?_ ?_
      · intro i hi ih
        refine Ev.step ?_
        simp only [laws_FnPlanReaches.l2, rd62 Q i hi, upN i (by omega)]
        exact Ev.pos (by omega) (Ev.pos (by omega) (Ev.pos (h3 _ (List.getElem_mem hi)) ih))
      · refine Ev.step ?_
        simp only [laws_FnPlanReaches.l2]
        exact Ev.neg (by omega) (Ev.bind okNone Ev.pure)
    have hmem := end_plan old new run
    refine countLoop (fun k i => laws_FnPlanReaches.l0 k more old new run (planU old new run) (endU run (planU old new run)) (ordered new) i) (ordered new).length true ?_ ?_
    · intro i hi ih
      refine Ev.step ?_
      simp only [laws_FnPlanReaches.l0, rdStr (ordered new) i hi, upN i (by omega)]
      exact Ev.pos (by omega) (Ev.pos (by omega) (Ev.bind (lawHas_ev _ _ (by omega)) (Ev.pos ((hasW_iff _ _).2 ((hmem _).2 (Or.inr (List.getElem_mem hi)))) ih)))
    · refine Ev.step ?_
      simp only [laws_FnPlanReaches.l0]
      refine Ev.neg (by omega) ?_
      generalize endU run (planU old new run) = E at hel hmem last
      refine countLoop (fun k i => laws_FnPlanReaches.l1 k more old new run (planU old new run) E (ordered new) i) E.length true ?_ ?_
      · intro i hi ih
        have hs := (hmem E[i]).1 (List.getElem_mem hi)
        have has : Ev (fun k => (laws_has.f k (ordered new) E[i]).bind fun t => if t = true then laws_FnPlanReaches.l1 k more old new run (planU old new run) E (ordered new) ((i + 1 : Nat) : Int) else (laws_has.f k run E[i]).bind fun t => if t = true then laws_FnPlanReaches.l1 k more old new run (planU old new run) E (ordered new) ((i + 1 : Nat) : Int) else some false) true := by
          refine Ev.bind (lawHas_ev _ _ (by omega)) ?_
          by_cases c : hasW (ordered new) E[i] = true
          · exact Ev.pos c ih
          · refine Ev.neg c (Ev.bind (lawHas_ev _ _ (by omega)) (Ev.pos ((hasW_iff _ _).2 ?_) ih))
            rcases hs with hs | hs
            · exact hs.1
            · exact absurd ((hasW_iff _ _).2 hs) c
        obtain ⟨t, t1, t2⟩ := lawUnit_ev new (by omega) E[i]
        refine Ev.step ?_
        simp only [laws_FnPlanReaches.l1, rdStr E i hi, upN i (by omega)]
        refine Ev.pos (by omega) (Ev.pos (by omega) (Ev.bind t1 ?_))
        by_cases c : t < 0
        · obtain ⟨u, u1, u2⟩ := lawUnit_ev old (by omega) E[i]
          have hno := (isAt_neg t2).1 c
          have : u < 0 := (isAt_neg u2).2 fun e => by
            rcases hs with hs | hs
            · exact hs.2 ⟨e, hno⟩
            · exact hno (ordered_mem new _ hs)
          exact Ev.pos c (Ev.bind u1 (Ev.neg (by omega) has))
        · exact Ev.neg c has
      · refine Ev.step ?_
        simp only [laws_FnPlanReaches.l1, upN (planU old new run).length (by omega)]
        refine Ev.neg (by omega) (Ev.bind hS (Ev.pos rfl ?_))
        by_cases c : 0 < (planU old new run).length
        · obtain ⟨n, hn, e⟩ : ∃ n : Nat, n ≤ (planU old new run).length ∧ (more.length : Int) % (((planU old new run).length + 1 : Nat) : Int) = (n : Int) := ⟨more.length % ((planU old new run).length + 1), by have := Nat.mod_lt more.length (show 0 < (planU old new run).length + 1 by omega); omega, by rw [Int.natCast_emod]⟩
          rw [e]
          exact Ev.pos (by omega) (Ev.neg (by omega) (last n hn))
        · exact Ev.neg (by omega) (last 0 (by omega))
  · have hP0 := hP run
    rw [if_neg (fun e => hbd ⟨e.1, e.2.1⟩)] at hP0
    refine Ev.bind hd (Ev.bind hP0 (Ev.bind b1 ?_))
    by_cases hb : b = true
    · have hdf : d = false := by
        cases d
        · rfl
        · exact absurd ⟨hb, rfl⟩ hbd
      subst hdf
      exact Ev.pos hb (Ev.bind d1 none1)
    · exact Ev.neg hb none1

end Go.Proofs.Ytnahkojlamficaa.Pure
