/- The pure statement of FnExactPlanUnits: both sides tell the same stops and starts. -/
import Derived.Test.YtnahkojlamficaaPFnExactPlanUnitsx0
import Derived.Test.YtnahkojlamficaaPFnExactPlanUnitsx1
import Derived.Test.YtnahkojlamficaaPFnExactPlanUnitsx10
import Derived.Test.YtnahkojlamficaaPFnExactPlanUnitsx11
import Derived.Test.YtnahkojlamficaaPFnExactPlanUnitsx12
import Derived.Test.YtnahkojlamficaaPFnExactPlanUnitsx13
import Derived.Test.YtnahkojlamficaaPFnExactPlanUnitsx14
import Derived.Test.YtnahkojlamficaaPFnExactPlanUnitsx15
import Derived.Test.YtnahkojlamficaaPFnExactPlanUnitsx2
import Derived.Test.YtnahkojlamficaaPFnExactPlanUnitsx3
import Derived.Test.YtnahkojlamficaaPFnExactPlanUnitsx4
import Derived.Test.YtnahkojlamficaaPFnExactPlanUnitsx5
import Derived.Test.YtnahkojlamficaaPFnExactPlanUnitsx6
import Derived.Test.YtnahkojlamficaaPFnExactPlanUnitsx7
import Derived.Test.YtnahkojlamficaaPFnExactPlanUnitsx8
import Derived.Test.YtnahkojlamficaaPFnExactPlanUnitsx9
import Derived.Laws.BitsLemmas
import Derived.Laws.Bits64b
import Derived.Lib.Bytealg
namespace Go.Proofs.Ytnahkojlamficaa.Pure
open Go.RowKit Go.Proofs.YtnahkojlamficaaW.PrintWords Go.Proofs.YtnahkojlamficaaW.PrintLast Go.Proofs.YtnahkojlamficaaW.PrintMore Go.Proofs.Ytnahkojlamficaa.PFnExactPlanUnits

theorem u64w (n : Int) (h0 : 0 ≤ n) (h1 : n < 18446744073709551616) : IntKind.u64.wrap n = n := by
  simp [IntKind.wrap, IntKind.signed, IntKind.bits]; omega
theorem i64w (n : Int) (h0 : -9223372036854775808 ≤ n) (h1 : n < 9223372036854775808) : IntKind.i64.wrap n = n := by
  rw [IntKind.wrap_i64]; omega
theorem w64 (n : Int) (h0 : -9223372036854775808 ≤ n) (h1 : n < 9223372036854775808) : wrap64 n = n := by unfold wrap64; omega
theorem up1 (i : Int) (h0 : 0 ≤ i) (h : i < 9223372036854775807) : wrap64 (i + 1) = i + 1 := by unfold wrap64; omega
theorem u64_lo (n : Int) : 0 ≤ IntKind.u64.wrap n := by simp [IntKind.wrap, IntKind.signed, IntKind.bits]; omega
theorem u64_hi (n : Int) : IntKind.u64.wrap n < 18446744073709551616 := by simp [IntKind.wrap, IntKind.signed, IntKind.bits]; omega
theorem u64_wf (x : Int) (h : (Lit.int .u64 x).wf = true) : 0 ≤ x ∧ x < 18446744073709551616 := by
  simp [Lit.wf, IntKind.min, IntKind.max, IntKind.signed, IntKind.bits] at h; omega
theorem and31 (x : Int) (h0 : 0 ≤ x) (h1 : x < 18446744073709551616) : Go.bits .and .u64 x 31 = x % 32 := by
  have := bits_mask .u64 64 (by decide) (fun n a b => u64w n a (by simpa using b)) 5 (by decide) x h0 (by simpa using h1)
  simpa using this
theorem or5 (a c : Int) (h0 : 0 ≤ a) (h1 : a * 32 < 18446744073709551616) (hc0 : 0 ≤ c) (hc : c < 32) : Go.bits .or .u64 (a * 32) c = a * 32 + c := by
  have := bits_join .u64 64 (by decide) (fun n x y => u64w n x (by simpa using y)) 5 (a * 32) c (by omega) (by omega) (by simpa using h1) hc0 (by simpa using hc) (by simp; omega)
  exact this
theorem bt_list (l : List UInt8) (i : Int) : bt ⟨l.toArray⟩ i = ((l.getD i.toNat 0).toNat : Int) := by
  unfold bt
  split
  · rename_i h
    have h' : i.toNat < l.length := by simpa [ByteArray.size] using h
    rw [List.getD_eq_getElem?_getD, List.getElem?_eq_getElem h']
    rfl
  · rename_i h
    have h' : l.length ≤ i.toNat := by simpa [ByteArray.size] using h
    rw [List.getD_eq_getElem?_getD, List.getElem?_eq_none h']; rfl
/-- The alphabet of chapter 1. -/
def alpha : ByteArray := ⟨#[48, 49, 50, 51, 52, 53, 54, 55, 56, 57, 97, 98, 99, 100, 102, 103, 104, 105, 106, 107, 108, 109, 110, 112, 113, 114, 115, 118, 119, 120, 121, 122]⟩
/-- The n-th digit from the right, as its byte. -/
def dg (x : Int) (n : Nat) : Int := bt alpha (x / 2 ^ (5 * n) % 32)
/-- The last n digits. -/
def ds (x : Int) : Nat → List Int
  | 0 => []
  | n + 1 => dg x n :: ds x n
theorem ds_length (x : Int) : ∀ n, (ds x n).length = n
  | 0 => rfl
  | n + 1 => by simp [ds, ds_length x n]
/-- The thirteen bytes. -/
def word (x : Int) : ByteArray := strOfNums (ds x 13)
theorem div_lo (x : Int) (h0 : 0 ≤ x) (n : Nat) : 0 ≤ x / 2 ^ n := Int.ediv_nonneg h0 (by have := Nat.two_pow_pos n; exact_mod_cast Nat.zero_le _)
theorem div_hi (x : Int) (h0 : 0 ≤ x) (n : Nat) : x / 2 ^ n ≤ x := Int.ediv_le_self _ h0
theorem shr5 (x : Int) (n : Nat) (hn : n ≤ 12) : shr .u64 x (5 * n) = x / 2 ^ (5 * n) := by
  unfold shr
  have e : (5 * (n : Int)).toNat = 5 * n := by omega
  rw [e, Nat.min_eq_left (by simp [IntKind.bits]; omega)]
/-- What a byte is worth as a digit; -1: it is none. -/
def dv (c : Int) : Int := Lib.indexByte alpha.data.toList c.toNat.toUInt8
theorem dv_all : ∀ c : Fin 256, -1 ≤ dv (c.val : Int) ∧ dv (c.val : Int) < 32 := by decide +kernel
theorem dv_bounds (c : Int) (h0 : 0 ≤ c) (h1 : c ≤ 255) : -1 ≤ dv c ∧ dv c < 32 := by
  have := dv_all ⟨c.toNat, by omega⟩
  simpa [Int.toNat_of_nonneg h0] using this
/-- The number that thirteen digits tell, from the i-th on. -/
def rwGo (s : ByteArray) : Nat → Int → Nat → Int × Bool
  | 0, x, _ => (x, true)
  | d + 1, x, i => if dv (bt s i) < 0 then (0, false) else if i = 0 ∧ dv (bt s i) > 15 then (0, false) else rwGo s d (x * 32 + dv (bt s i)) (i + 1)
def rw32 (s : ByteArray) : Int × Bool := if s.size = 13 then rwGo s 13 0 0 else (0, false)
/-- The bound that the digits so far keep. -/
def lim (d : Nat) : Int := if d = 13 then 1 else 2 ^ (64 - 5 * d)
theorem lim_all : ∀ d : Fin 13, lim d.val ≤ 18446744073709551616 ∧ 0 < lim d.val ∧ (d.val < 12 → lim (d.val + 1) * 32 = lim d.val) ∧ (d.val = 12 → lim d.val = 16) ∧ lim (d.val + 1) * 32 ≤ 18446744073709551616 := by decide +kernel
theorem word_size (x : Int) : (word x).size = 13 := by unfold word; rw [strOfNums_size, ds_length]

-- Ev
/-- With fuel enough the run answers r. -/
def Ev {α : Type} (f : Nat → Option α) (r : α) : Prop := ∃ K, ∀ k, K ≤ k → f k = some r
theorem Ev.pure {α : Type} {r : α} : Ev (fun _ => some r) r := ⟨0, fun _ _ => rfl⟩
theorem Ev.of {α : Type} {f : Nat → Option α} {r : α} (N : Nat) (h : ∀ k, N ≤ k → f k = some r) : Ev f r := ⟨N, h⟩
theorem Ev.step {α : Type} {f : Nat → Option α} {r : α} (h : Ev (fun k => f (k + 1)) r) : Ev f r := by
  obtain ⟨K, h⟩ := h
  refine ⟨K + 1, fun k hk => ?_⟩
  obtain ⟨m, rfl⟩ : ∃ m, k = m + 1 := ⟨k - 1, by omega⟩
  exact h m (by omega)
theorem Ev.bind {α β : Type} {f : Nat → Option α} {g : Nat → α → Option β} {a : α} {r : β} (h : Ev f a) (h2 : Ev (fun k => g k a) r) : Ev (fun k => (f k).bind (g k)) r := by
  obtain ⟨K, h⟩ := h
  obtain ⟨K2, h2⟩ := h2
  refine ⟨K + K2, fun k hk => ?_⟩
  show (f k).bind (g k) = some r
  rw [h k (by omega)]
  exact h2 k (by omega)
theorem Ev.cons {α β : Type} {x : Option α} {g : Nat → α → Option β} {a : α} {r : β} (h : x = some a) (h2 : Ev (fun k => g k a) r) : Ev (fun k => x.bind (g k)) r := by
  subst h
  exact h2
theorem Ev.pos {α : Type} {c : Prop} [Decidable c] {f g : Nat → Option α} {r : α} (hc : c) (h : Ev f r) : Ev (fun k => if c then f k else g k) r := by
  simpa only [if_pos hc] using h
theorem Ev.neg {α : Type} {c : Prop} [Decidable c] {f g : Nat → Option α} {r : α} (hc : ¬ c) (h : Ev g r) : Ev (fun k => if c then f k else g k) r := by
  simpa only [if_neg hc] using h
theorem Ev.at {α : Type} {f : Nat → Option α} {r : α} (h : Ev f r) : ∃ k, f k = some r := by
  obtain ⟨K, h⟩ := h
  exact ⟨K, h K (Nat.le_refl _)⟩
theorem Ev.uniq {α : Type} {f : Nat → Option α} {r s : α} (h : Ev f r) (h2 : Ev f s) : r = s := by
  obtain ⟨K, h⟩ := h
  obtain ⟨K2, h2⟩ := h2
  have a := h (K + K2) (by omega)
  have b := h2 (K + K2) (by omega)
  rw [a] at b
  exact Option.some.inj b
/-- From the end down. -/
theorem downTo (n : Nat) (P : Nat → Prop) (base : P n) (step : ∀ i, i < n → P (i + 1) → P i) : ∀ i, i ≤ n → P i := by
  intro i hi
  obtain ⟨d, rfl⟩ : ∃ d, i = n - d := ⟨n - i, by omega⟩
  clear hi
  induction d with
  | zero => exact base
  | succ d ih =>
    by_cases h : d < n
    · refine step _ (by omega) ?_
      have e : n - (d + 1) + 1 = n - d := by omega
      rw [e]; exact ih
    · have e : n - (d + 1) = n - d := by omega
      rw [e]; exact ih
theorem upN (i : Nat) (h : i < 1000000000000000) : wrap64 ((i : Int) + 1) = ((i + 1 : Nat) : Int) := by unfold wrap64; omega
theorem dnN (i : Nat) (h : i < 1000000000000000) (h0 : 0 < i) : wrap64 ((i : Int) - 1) = ((i - 1 : Nat) : Int) := by unfold wrap64; omega
/-- A loop that sets place by place leaves the row's picture. -/
theorem setLoop {A B : Type} (L : Nat → List B → Int → Option (List B)) (x : List A) (c : A → B)
    (step : ∀ (i : Nat) (y : List B) (r : List B) (h : i < x.length), y.length = x.length → Ev (fun k => L k (y.set i (c x[i])) ((i + 1 : Nat) : Int)) r → Ev (fun k => L k y (i : Int)) r)
    (stop : ∀ y : List B, y.length = x.length → Ev (fun k => L k y ((x.length : Nat) : Int)) y) :
    ∀ y : List B, y.length = x.length → Ev (fun k => L k y 0) (x.map c) := by
  have main := downTo x.length (fun i => ∀ y : List B, y.length = x.length → y.take i = (x.map c).take i → Ev (fun k => L k y (i : Int)) (x.map c)) ?_ ?_
  · intro y hy
    exact main 0 (by omega) y hy (by simp)
  · intro y hy he
    rw [List.take_of_length_le (by omega), List.take_of_length_le (by simp)] at he
    have := stop y hy
    rw [he] at this
    rw [he] at hy
    exact he ▸ stop y (by rw [he]; exact hy)
  · intro i hi ih y hy he
    refine step i y _ hi hy (ih _ (by simp [hy]) ?_)
    rw [List.take_add_one, List.take_add_one, List.take_set_of_le (by omega), he, List.getElem?_set_self (by omega)]
    simp [List.getElem?_eq_getElem hi]
theorem countLoop {α : Type} (L : Nat → Int → Option α) (n : Nat) (r : α) (step : ∀ i : Nat, i < n → Ev (fun k => L k ((i + 1 : Nat) : Int)) r → Ev (fun k => L k (i : Int)) r) (stop : Ev (fun k => L k ((n : Nat) : Int)) r) : Ev (fun k => L k 0) r :=
  downTo n (fun i => Ev (fun k => L k (i : Int)) r) stop (fun i hi h => step i hi h) 0 (by omega)

-- RdS
theorem rdStr (l : List ByteArray) (i : Nat) (h : i < l.length) : rdOf ByteArray.empty l (i : Int) = l[i] := by unfold rdOf; simp [List.getD_eq_getElem?_getD, List.getElem?_eq_getElem h]

-- NameOk
def nmByte (c : Int) : Bool := (decide (97 ≤ c) && decide (c ≤ 122)) || (decide (65 ≤ c) && decide (c ≤ 90)) || (decide (48 ≤ c) && decide (c ≤ 57)) || c == 45 || c == 95 || c == 46 || c == 43
/-- Are n bytes from the i-th on those of a name? -/
def nmGo (s : ByteArray) : Nat → Nat → Bool
  | 0, _ => true
  | d + 1, i => nmByte (bt s i) && nmGo s d (i + 1)
/-- A name. -/
def nmOk (s : ByteArray) : Bool := decide (1 ≤ s.size) && decide (s.size ≤ 60) && !(bt s 0 == 46) && nmGo s s.size 0
theorem l1Letter_f (c : Int) : spec_l1Letter.f c = some ((decide (97 ≤ c) && decide (c ≤ 122)) || (decide (65 ≤ c) && decide (c ≤ 90))) := by
  unfold spec_l1Letter.f
  by_cases h1 : 97 ≤ c <;> by_cases h2 : c ≤ 122 <;> by_cases h3 : 65 ≤ c <;> by_cases h4 : c ≤ 90 <;> simp [h1, h2, h3, h4] <;> omega
theorem l1Digit_f (c : Int) : spec_l1Digit.f c = some (decide (48 ≤ c) && decide (c ≤ 57)) := by
  unfold spec_l1Digit.f
  by_cases h1 : 48 ≤ c <;> by_cases h2 : c ≤ 57 <;> simp [h1, h2]
theorem letter_f (c : Int) : impl_letter.f c = some ((decide (97 ≤ c) && decide (c ≤ 122)) || (decide (65 ≤ c) && decide (c ≤ 90))) := by
  unfold impl_letter.f
  by_cases h1 : 97 ≤ c <;> by_cases h2 : c ≤ 122 <;> by_cases h3 : 65 ≤ c <;> by_cases h4 : c ≤ 90 <;> simp [h1, h2, h3, h4] <;> omega
theorem digit_f (c : Int) : impl_digit.f c = some (decide (48 ≤ c) && decide (c ≤ 57)) := by
  unfold impl_digit.f
  by_cases h1 : 48 ≤ c <;> by_cases h2 : c ≤ 57 <;> simp [h1, h2]
theorem spec_NameOk_loop (s : ByteArray) (hs : s.size ≤ 60) : ∀ (d i k : Nat), i + d = s.size → d < k → spec_NameOk.l0 k s (i : Int) = some (nmGo s d i) := by
  intro d
  induction d with
  | zero =>
    intro i k hi hk
    obtain ⟨k, rfl⟩ : ∃ m, k = m + 1 := ⟨k - 1, by omega⟩
    simp only [spec_NameOk.l0]; rw [if_neg (by omega)]; rfl
  | succ d ih =>
    intro i k hi hk
    obtain ⟨k, rfl⟩ : ∃ m, k = m + 1 := ⟨k - 1, by omega⟩
    have e3 : wrap64 ((i : Int) + 1) = ((i + 1 : Nat) : Int) := by rw [up1 _ (by omega) (by omega)]; omega
    simp only [spec_NameOk.l0, nmGo, nmByte]
    rw [if_pos (by omega), if_pos (by omega), l1Letter_f, l1Digit_f, e3, ih (i + 1) k (by omega) (by omega)]
    simp only [Option.bind_some]
    generalize bt s (i : Int) = c
    generalize nmGo s d (i + 1) = g
    generalize ((decide (97 ≤ c) && decide (c ≤ 122)) || (decide (65 ≤ c) && decide (c ≤ 90))) = p
    generalize (decide (48 ≤ c) && decide (c ≤ 57)) = q
    cases p <;> cases q <;> simp
    by_cases h1 : c = 45
    · simp [h1]
    · by_cases h2 : c = 95
      · simp [h2]
      · by_cases h3 : c = 46
        · simp [h3]
        · by_cases h4 : c = 43
          · simp [h4]
          · simp [h1, h2, h3, h4]
theorem spec_NameOk_f (s : ByteArray) (k : Nat) (hk : 63 ≤ k) : spec_NameOk.f k s = some (nmOk s) := by
  obtain ⟨k, rfl⟩ : ∃ m, k = m + 1 := ⟨k - 1, by omega⟩
  unfold spec_NameOk.f nmOk
  simp only [spec_NameOk.j0]
  by_cases h1 : (s.size : Int) < 1
  · rw [if_pos h1]
    have : ¬ 1 ≤ s.size := by omega
    simp [this]
  · rw [if_neg h1]
    have e1 : 1 ≤ s.size := by omega
    by_cases h2 : (s.size : Int) > 60
    · rw [if_pos h2]
      have : ¬ s.size ≤ 60 := by omega
      simp [this]
    · rw [if_neg h2, if_pos (by omega)]
      have e2 : s.size ≤ 60 := by omega
      have h := spec_NameOk_loop s e2 s.size 0 k (by omega) (by omega)
      rw [show ((0 : Nat) : Int) = 0 from rfl] at h
      rw [h]
      by_cases h3 : bt s 0 = 46
      · simp [h3]
      · simp [h3, e1, e2]
theorem w32_byte (s : ByteArray) (i : Int) : wrap32 (bt s i) = bt s i := by
  have := bt_range s i
  unfold wrap32; omega
theorem impl_NameOk_loop (s : ByteArray) (hs : s.size ≤ 60) : ∀ (d i k : Nat), i + d = s.size → d < k → impl_NameOk.l0 k s (s.size : Int) (i : Int) = some (nmGo s d i) := by
  intro d
  induction d with
  | zero =>
    intro i k hi hk
    obtain ⟨k, rfl⟩ : ∃ m, k = m + 1 := ⟨k - 1, by omega⟩
    simp only [impl_NameOk.l0]; rw [if_neg (by omega)]; rfl
  | succ d ih =>
    intro i k hi hk
    obtain ⟨k, rfl⟩ : ∃ m, k = m + 1 := ⟨k - 1, by omega⟩
    have e3 : wrap64 ((i : Int) + 1) = ((i + 1 : Nat) : Int) := by rw [up1 _ (by omega) (by omega)]; omega
    have hb := bt_range s (i : Int)
    have e4 : strings_ContainsRune.f (⟨#[45, 95, 46, 43]⟩ : ByteArray) (bt s (i : Int)) = some (bt s (i : Int) == 45 || bt s (i : Int) == 95 || bt s (i : Int) == 46 || bt s (i : Int) == 43) := by
      unfold strings_ContainsRune.f
      rw [if_pos (by rw [Lib.toList_data]), if_pos (by omega)]
    simp only [impl_NameOk.l0, nmGo, nmByte]
    rw [if_pos (by omega), if_pos (by omega), if_pos (by omega), letter_f, digit_f, w32_byte, e4, e3, ih (i + 1) k (by omega) (by omega)]
    simp only [Option.bind_some]
    generalize bt s (i : Int) = c
    generalize nmGo s d (i + 1) = g
    generalize ((decide (97 ≤ c) && decide (c ≤ 122)) || (decide (65 ≤ c) && decide (c ≤ 90))) = p
    generalize (decide (48 ≤ c) && decide (c ≤ 57)) = q
    generalize (c == 45) = r1
    generalize (c == 95) = r2
    generalize (c == 46) = r3
    generalize (c == 43) = r4
    cases p <;> cases q <;> cases r1 <;> cases r2 <;> cases r3 <;> cases r4 <;> simp
theorem impl_NameOk_f (s : ByteArray) (k : Nat) (hk : 63 ≤ k) : impl_NameOk.f k s = some (nmOk s) := by
  obtain ⟨k, rfl⟩ : ∃ m, k = m + 1 := ⟨k - 1, by omega⟩
  unfold impl_NameOk.f nmOk
  simp only [impl_NameOk.j0]
  by_cases h1 : (s.size : Int) < 1
  · rw [if_pos h1]
    have : ¬ 1 ≤ s.size := by omega
    simp [this]
  · rw [if_neg h1]
    have e1 : 1 ≤ s.size := by omega
    by_cases h2 : (s.size : Int) > 60
    · rw [if_pos h2]
      have : ¬ s.size ≤ 60 := by omega
      simp [this]
    · rw [if_neg h2, if_pos (by omega)]
      have e2 : s.size ≤ 60 := by omega
      have h := impl_NameOk_loop s e2 s.size 0 k (by omega) (by omega)
      rw [show ((0 : Nat) : Int) = 0 from rfl] at h
      rw [h]
      by_cases h3 : bt s 0 = 46
      · simp [h3]
      · simp [h3, e1, e2]

-- UnitsO
theorem Ev.guard {f g : Nat → Option Bool} {a b : Bool} (h : Ev f a) (h2 : Ev g b) : Ev (fun k => (f k).bind fun t => if t = true then g k else some false) (a && b) := by
  cases a
  · exact Ev.bind h (Ev.neg (by simp) Ev.pure)
  · rw [Bool.true_and]
    exact Ev.bind h (Ev.pos rfl h2)
theorem rd55 (l : List S55) (i : Nat) (h : i < l.length) : rd_T55 l (i : Int) = l[i] := by unfold rd_T55; simp [List.getD_eq_getElem?_getD, List.getElem?_eq_getElem h]
theorem specName_ev (s : ByteArray) : Ev (fun k => spec_NameOk.f k s) (nmOk s) := Ev.of 63 (fun k hk => spec_NameOk_f s k hk)
theorem implName_ev (s : ByteArray) : Ev (fun k => impl_NameOk.f k s) (nmOk s) := Ev.of 63 (fun k hk => impl_NameOk_f s k hk)
theorem rising_ev (l : List ByteArray) (hl : l.length ≤ 1048576) : ∃ b, Ev (fun k => spec_l17Ascending.f k l) (b && decide ((l.length : Int) ≤ 20)) ∧ Ev (fun k => impl_rising_hs.f k l) b := by
  unfold spec_l17Ascending.f impl_rising_hs.f
  refine downTo (l.length + 1) (fun i => 0 < i → ∃ b, Ev (fun k => spec_l17Ascending.l0 k l (i : Int)) (b && decide ((l.length : Int) ≤ 20)) ∧ Ev (fun k => impl_rising_hs.l0 k l (i : Int)) b) ?_ ?_ 1 (by omega) (by omega)
  · intro _
    refine ⟨true, Ev.step ?_, Ev.step ?_⟩
    · simp only [spec_l17Ascending.l0, Bool.true_and]
      exact Ev.neg (by omega) Ev.pure
    · simp only [impl_rising_hs.l0]
      exact Ev.neg (by omega) Ev.pure
  · intro i hi ih h0
    by_cases h : i < l.length
    · obtain ⟨b, h1, h2⟩ := ih (by omega)
      have hd := dnN i (by omega) h0
      have hi1 : i - 1 < l.length := by omega
      by_cases c : Op.bytesLess (l[i - 1]).toList (l[i]).toList = true
      · refine ⟨b, Ev.step ?_, Ev.step ?_⟩
        · simp only [spec_l17Ascending.l0, hd, rdStr l i h, rdStr l (i - 1) hi1, upN i (by omega)]
          exact Ev.pos (by omega) (Ev.pos (by omega) (Ev.pos (by omega) (Ev.pos (by omega) (Ev.pos c h1))))
        · simp only [impl_rising_hs.l0, hd, rdStr l i h, rdStr l (i - 1) hi1, upN i (by omega)]
          exact Ev.pos (by omega) (Ev.pos (by omega) (Ev.pos (by omega) (Ev.pos (by omega) (Ev.pos c h2))))
      · refine ⟨false, Ev.step ?_, Ev.step ?_⟩
        · simp only [spec_l17Ascending.l0, hd, rdStr l i h, rdStr l (i - 1) hi1, Bool.false_and]
          exact Ev.pos (by omega) (Ev.pos (by omega) (Ev.pos (by omega) (Ev.pos (by omega) (Ev.neg c Ev.pure))))
        · simp only [impl_rising_hs.l0, hd, rdStr l i h, rdStr l (i - 1) hi1]
          exact Ev.pos (by omega) (Ev.pos (by omega) (Ev.pos (by omega) (Ev.pos (by omega) (Ev.neg c Ev.pure))))
    · refine ⟨true, Ev.step ?_, Ev.step ?_⟩
      · simp only [spec_l17Ascending.l0, Bool.true_and]
        exact Ev.neg (by omega) Ev.pure
      · simp only [impl_rising_hs.l0]
        exact Ev.neg (by omega) Ev.pure
theorem names_ev (l : List ByteArray) (hl : l.length ≤ 1048576) (b : Bool) (hb : Ev (fun k => impl_rising_hs.f k l) b) : ∃ c, Ev (fun k => spec_l8Names.f k l) (c && decide ((l.length : Int) ≤ 2000)) ∧ Ev (fun k => impl_namesUp.f k l) (c && b) := by
  unfold spec_l8Names.f impl_namesUp.f
  refine downTo l.length (fun i => ∃ c, Ev (fun k => spec_l8Names.l0 k l (i : Int)) (c && decide ((l.length : Int) ≤ 2000)) ∧ Ev (fun k => impl_namesUp.l0 k l l (l.length : Int) (i : Int)) (c && b)) ?_ ?_ 0 (by omega)
  · refine ⟨true, Ev.step ?_, Ev.step ?_⟩
    · simp only [spec_l8Names.l0, Bool.true_and]
      exact Ev.neg (by omega) Ev.pure
    · simp only [impl_namesUp.l0, Bool.true_and]
      exact Ev.neg (by omega) (Ev.bind hb Ev.pure)
  · intro i hi ⟨c, h1, h2⟩
    refine ⟨nmOk l[i] && c, Ev.step ?_, Ev.step ?_⟩
    · simp only [spec_l8Names.l0, rdStr l i hi, upN i (by omega), Bool.and_assoc]
      exact Ev.pos (by omega) (Ev.pos (by omega) (Ev.guard (specName_ev _) h1))
    · simp only [impl_namesUp.l0, rdStr l i hi, upN i (by omega), Bool.and_assoc]
      exact Ev.pos (by omega) (Ev.pos (by omega) (Ev.pos (by omega) (Ev.guard (implName_ev _) h2)))
theorem UnitsOk_ev (x : List S55) (hx : x.length ≤ 1048576) (ok : ∀ u ∈ x, u.f1.length ≤ 1048576 ∧ u.f2.length ≤ 1048576) : ∃ b, Ev (fun k => spec_UnitsOk.f k x) b ∧ Ev (fun k => impl_UnitsOk.f k x) b := by
  unfold spec_UnitsOk.f impl_UnitsOk.f
  by_cases c0 : (x.length : Int) > 100
  · exact ⟨false, Ev.pos c0 Ev.pure, Ev.pos c0 Ev.pure⟩
  have key := downTo x.length (fun i => ∃ b, Ev (fun k => spec_UnitsOk.l0 k x (i : Int)) b ∧ Ev (fun k => impl_UnitsOk.l0 k x x (x.length : Int) (i : Int)) b) ?_ ?_ 0 (by omega)
  · obtain ⟨b, h1, h2⟩ := key
    exact ⟨b, Ev.neg c0 h1, Ev.neg c0 h2⟩
  · refine ⟨true, Ev.step ?_, Ev.step ?_⟩
    · simp only [spec_UnitsOk.l0]
      exact Ev.neg (by omega) Ev.pure
    · simp only [impl_UnitsOk.l0]
      exact Ev.neg (by omega) Ev.pure
  · intro i hi ⟨b', g1, g2⟩
    obtain ⟨o1, o2⟩ := ok _ (List.getElem_mem hi)
    obtain ⟨b1, a1, r1⟩ := rising_ev (x[i]).f1 o1
    obtain ⟨b2, a2, r2⟩ := rising_ev (x[i]).f2 o2
    obtain ⟨n1, s1, i1⟩ := names_ev (x[i]).f1 o1 b1 r1
    obtain ⟨n2, s2, i2⟩ := names_ev (x[i]).f2 o2 b2 r2
    have fs : Ev (fun k => if ((x[i]).f3.size : Int) > 4000 then some false else spec_UnitsOk.l0 k x ((i + 1 : Nat) : Int)) (if ((x[i]).f3.size : Int) > 4000 then false else b') := by
      by_cases c : ((x[i]).f3.size : Int) > 4000
      · rw [if_pos c]; exact Ev.pos c Ev.pure
      · rw [if_neg c]; exact Ev.neg c g1
    have fi : Ev (fun k => if ((x[i]).f3.size : Int) > 4000 then some false else impl_UnitsOk.l0 k x x (x.length : Int) ((i + 1 : Nat) : Int)) (if ((x[i]).f3.size : Int) > 4000 then false else b') := by
      by_cases c : ((x[i]).f3.size : Int) > 4000
      · rw [if_pos c]; exact Ev.pos c Ev.pure
      · rw [if_neg c]; exact Ev.neg c g2
    generalize (if ((x[i]).f3.size : Int) > 4000 then false else b') = e at fs fi
    have ts := Ev.guard a1 (Ev.guard a2 (Ev.guard s1 (Ev.guard s2 fs)))
    have ti0 := Ev.guard i1 (Ev.guard i2 fi)
    have ti : Ev (fun k => if ((x[i]).f1.length : Int) > 20 then some false else (if ((x[i]).f2.length : Int) > 20 then some false else ((impl_namesUp.f k (x[i]).f1).bind fun t => if t = true then ((impl_namesUp.f k (x[i]).f2).bind fun t => if t = true then (if ((x[i]).f3.size : Int) > 4000 then some false else impl_UnitsOk.l0 k x x (x.length : Int) ((i + 1 : Nat) : Int)) else some false) else some false)))
        ((b1 && decide (((x[i]).f1.length : Int) ≤ 20)) && ((b2 && decide (((x[i]).f2.length : Int) ≤ 20)) && ((n1 && decide (((x[i]).f1.length : Int) ≤ 2000)) && ((n2 && decide (((x[i]).f2.length : Int) ≤ 2000)) && e)))) := by
      by_cases l1 : ((x[i]).f1.length : Int) > 20
      · rw [decide_eq_false (show ¬ ((x[i]).f1.length : Int) ≤ 20 by omega), Bool.and_false, Bool.false_and]
        exact Ev.pos l1 Ev.pure
      · by_cases l2 : ((x[i]).f2.length : Int) > 20
        · rw [decide_eq_false (show ¬ ((x[i]).f2.length : Int) ≤ 20 by omega), Bool.and_false, Bool.false_and, Bool.and_false]
          exact Ev.neg l1 (Ev.pos l2 Ev.pure)
        · rw [decide_eq_true (show ((x[i]).f1.length : Int) ≤ 20 by omega), decide_eq_true (show ((x[i]).f2.length : Int) ≤ 20 by omega), decide_eq_true (show ((x[i]).f1.length : Int) ≤ 2000 by omega), decide_eq_true (show ((x[i]).f2.length : Int) ≤ 2000 by omega)]
          have e1 : ((b1 && true) && ((b2 && true) && ((n1 && true) && ((n2 && true) && e)))) = ((n1 && b1) && ((n2 && b2) && e)) := by
            cases b1 <;> cases b2 <;> cases n1 <;> cases n2 <;> rfl
          rw [e1]
          exact Ev.neg l1 (Ev.neg l2 ti0)
    generalize ((b1 && decide (((x[i]).f1.length : Int) ≤ 20)) && ((b2 && decide (((x[i]).f2.length : Int) ≤ 20)) && ((n1 && decide (((x[i]).f1.length : Int) ≤ 2000)) && ((n2 && decide (((x[i]).f2.length : Int) ≤ 2000)) && e)))) = q at ts ti
    refine ⟨nmOk (x[i]).f0 && (if 0 < i then Op.bytesLess ((x[i - 1]).f0).toList ((x[i]).f0).toList && q else q), Ev.step ?_, Ev.step ?_⟩
    · simp only [spec_UnitsOk.l0, rd55 x i hi, upN i (by omega)]
      refine Ev.pos (by omega) (Ev.pos (by omega) (Ev.guard (specName_ev _) ?_))
      by_cases c : 0 < i
      · have hi1 : i - 1 < x.length := by omega
        simp only [if_pos c, dnN i (by omega) c, rd55 x (i - 1) hi1]
        refine Ev.pos (by omega) (Ev.pos (by omega) (Ev.pos (by omega) ?_))
        by_cases d : Op.bytesLess ((x[i - 1]).f0).toList ((x[i]).f0).toList = true
        · rw [d, Bool.true_and]
          exact Ev.pos rfl ts
        · rw [Bool.eq_false_iff.mpr d, Bool.false_and]
          exact Ev.neg (by simp) Ev.pure
      · rw [if_neg c]
        exact Ev.neg (by omega) ts
    · simp only [impl_UnitsOk.l0, rd55 x i hi, upN i (by omega)]
      refine Ev.pos (by omega) (Ev.pos (by omega) (Ev.pos (by omega) (Ev.guard (implName_ev _) ?_)))
      by_cases c : 0 < i
      · have hi1 : i - 1 < x.length := by omega
        simp only [if_pos c, dnN i (by omega) c, rd55 x (i - 1) hi1]
        refine Ev.pos (by omega) (Ev.pos (by omega) (Ev.pos (by omega) ?_))
        by_cases d : Op.bytesLess ((x[i - 1]).f0).toList ((x[i]).f0).toList = true
        · rw [d, Bool.true_and]
          exact Ev.pos rfl ti
        · rw [Bool.eq_false_iff.mpr d, Bool.false_and]
          exact Ev.neg (by simp) Ev.pure
      · rw [if_neg c]
        exact Ev.neg (by omega) ti

-- UnitsF
/-- What units that are ok are. -/
structure UOk (x : List S55) : Prop where
  len : x.length ≤ 100
  ord : ∀ (j : Nat) (h : j < x.length), 0 < j → ltS (x[j - 1]).f0 (x[j]).f0
  cnt : ∀ u ∈ x, u.f1.length ≤ 20 ∧ u.f2.length ≤ 20
theorem unitsInv (x : List S55) (hx : x.length ≤ 100) : ∀ (d i k : Nat), i + d = x.length → impl_UnitsOk.l0 k x x (x.length : Int) (i : Int) = some true → ∀ (j : Nat) (hj : j < x.length), i ≤ j → (x[j]).f1.length ≤ 20 ∧ (x[j]).f2.length ≤ 20 ∧ (0 < j → ltS (x[j - 1]).f0 (x[j]).f0) := by
  intro d
  induction d with
  | zero => intro i k hd _ j hj hij; omega
  | succ d ih =>
    intro i k hd h j hj hij
    cases k with
    | zero => exact absurd h (by simp [impl_UnitsOk.l0])
    | succ k =>
      have hi : i < x.length := by omega
      simp only [impl_UnitsOk.l0, rd55 x i hi, upN i (by omega)] at h
      rw [if_pos (by omega), if_pos (by omega), if_pos (by omega)] at h
      obtain ⟨t, _, h⟩ := Option.bind_eq_some_iff.mp h
      have rest : ∀ {f g : Option Bool}, (if ((x[i]).f1.length : Int) > 20 then some false else (if ((x[i]).f2.length : Int) > 20 then some false else (f.bind fun t => if t = true then (g.bind fun t => if t = true then (if ((x[i]).f3.size : Int) > 4000 then some false else impl_UnitsOk.l0 k x x (x.length : Int) ((i + 1 : Nat) : Int)) else some false) else some false))) = some true →
          (x[i]).f1.length ≤ 20 ∧ (x[i]).f2.length ≤ 20 ∧ impl_UnitsOk.l0 k x x (x.length : Int) ((i + 1 : Nat) : Int) = some true := by
        intro f g h
        split at h
        · exact absurd h (by simp)
        · split at h
          · exact absurd h (by simp)
          · obtain ⟨t, _, h⟩ := Option.bind_eq_some_iff.mp h
            split at h
            · obtain ⟨t, _, h⟩ := Option.bind_eq_some_iff.mp h
              split at h
              · split at h
                · exact absurd h (by simp)
                · exact ⟨by omega, by omega, h⟩
              · exact absurd h (by simp)
            · exact absurd h (by simp)
      have main : (x[i]).f1.length ≤ 20 ∧ (x[i]).f2.length ≤ 20 ∧ (0 < i → ltS (x[i - 1]).f0 (x[i]).f0) ∧ impl_UnitsOk.l0 k x x (x.length : Int) ((i + 1 : Nat) : Int) = some true := by
        by_cases ht : t = true
        · rw [if_pos ht] at h
          by_cases c : 0 < i
          · have hi1 : i - 1 < x.length := by omega
            rw [if_pos (by omega)] at h
            simp only [dnN i (by omega) c, rd55 x (i - 1) hi1] at h
            rw [if_pos (by omega), if_pos (by omega)] at h
            by_cases e : Op.bytesLess ((x[i - 1]).f0).toList ((x[i]).f0).toList = true
            · rw [if_pos e] at h
              obtain ⟨a, b, c'⟩ := rest h
              exact ⟨a, b, fun _ => e, c'⟩
            · rw [if_neg e] at h
              exact absurd h (by simp)
          · rw [if_neg (by omega)] at h
            obtain ⟨a, b, c'⟩ := rest h
            exact ⟨a, b, fun h0 => absurd h0 c, c'⟩
        · rw [if_neg ht] at h
          exact absurd h (by simp)
      obtain ⟨a, b, c, e⟩ := main
      by_cases hji : j = i
      · subst hji
        exact ⟨a, b, c⟩
      · exact ih (i + 1) k (by omega) e j hj (by omega)
theorem UOk_of {x : List S55} (h : Ev (fun k => impl_UnitsOk.f k x) true) : UOk x := by
  obtain ⟨k, h⟩ := h.at
  unfold impl_UnitsOk.f at h
  by_cases c : (x.length : Int) > 100
  · rw [if_pos c] at h
    exact absurd h (by simp)
  · rw [if_neg c] at h
    have key := unitsInv x (by omega) x.length 0 k (by omega) h
    exact ⟨by omega, fun j hj h0 => (key j hj (by omega)).2.2 h0, fun u hu => by
      obtain ⟨j, hj, rfl⟩ := List.getElem_of_mem hu
      exact ⟨(key j hj (by omega)).1, (key j hj (by omega)).2.1⟩⟩
def namesU (x : List S55) : List ByteArray := x.map fun u => u.f0
theorem UOk.lt {x : List S55} (h : UOk x) : ∀ (d i : Nat) (hd : i + 1 + d < x.length), ltS (x[i]).f0 (x[i + 1 + d]).f0 := by
  intro d
  induction d with
  | zero => intro i hd; exact h.ord (i + 1) hd (by omega)
  | succ d ih =>
    intro i hd
    exact ltS_trans (ih i (by omega)) (h.ord (i + 1 + (d + 1)) hd (by omega))
theorem UOk.inj {x : List S55} (h : UOk x) {i j : Nat} (hi : i < x.length) (hj : j < x.length) (e : (x[i]).f0 = (x[j]).f0) : i = j := by
  rcases Nat.lt_trichotomy i j with c | c | c
  · have := h.lt (j - i - 1) i (by omega)
    simp only [show i + 1 + (j - i - 1) = j by omega] at this
    rw [e] at this
    exact absurd this (ltS_irr _)
  · exact c
  · have := h.lt (i - j - 1) j (by omega)
    simp only [show j + 1 + (i - j - 1) = i by omega] at this
    rw [e] at this
    exact absurd this (ltS_irr _)
theorem has_ev (l : List ByteArray) (s : ByteArray) (hl : l.length ≤ 1000000000) : Ev (fun k => spec_l3Has.f k l s) (hasW l s) := by
  unfold spec_l3Has.f
  have key := downTo l.length (fun i => Ev (fun k => spec_l3Has.l0 k l s (i : Int)) (hasW (l.drop i) s)) ?_ ?_ 0 (by omega)
  · simpa using key
  · refine Ev.step ?_
    simp only [spec_l3Has.l0, List.drop_length]
    exact Ev.neg (by omega) Ev.pure
  · intro i hi ih
    refine Ev.step ?_
    simp only [spec_l3Has.l0, rdStr l i hi, upN i (by omega)]
    rw [List.drop_eq_getElem_cons hi]
    refine Ev.pos (by omega) (Ev.pos (by omega) ?_)
    by_cases c : (l[i]).toList = s.toList
    · have e : hasW (l[i] :: l.drop (i + 1)) s = true := by
        unfold hasW
        rw [List.any_cons, decide_eq_true c, Bool.true_or]
      rw [e]
      exact Ev.pos c Ev.pure
    · have e : hasW (l[i] :: l.drop (i + 1)) s = hasW (l.drop (i + 1)) s := by
        unfold hasW
        rw [List.any_cons, decide_eq_false c, Bool.false_or]
      rw [e]
      exact Ev.neg c ih
/-- Where a unit of this name is. -/
def isAt (x : List S55) (s : ByteArray) (t : Int) : Prop := (t < 0 ∧ s ∉ namesU x) ∨ ∃ (i : Nat) (h : i < x.length), t = (i : Int) ∧ (x[i]).f0 = s
theorem find_ev (x : List S55) (hx : x.length ≤ 1048576) (s : ByteArray) : ∃ t : Int, Ev (fun k => spec_l18Find.f k x s) t ∧ Ev (fun k => impl_unitOf.f k x s) t ∧ isAt x s t := by
  unfold spec_l18Find.f impl_unitOf.f
  have key := downTo x.length (fun i => ∃ t : Int, Ev (fun k => spec_l18Find.l0 k x s (i : Int)) t ∧ Ev (fun k => impl_unitOf.l0 k s x (x.length : Int) (i : Int)) t ∧ ((t < 0 ∧ s ∉ namesU (x.drop i)) ∨ ∃ (i : Nat) (h : i < x.length), t = (i : Int) ∧ (x[i]).f0 = s)) ?_ ?_ 0 (by omega)
  · obtain ⟨t, a, b, c⟩ := key
    exact ⟨t, a, b, by simpa [isAt] using c⟩
  · refine ⟨-1, Ev.step ?_, Ev.step ?_, .inl ⟨by omega, by simp [namesU]⟩⟩
    · simp only [spec_l18Find.l0]
      exact Ev.neg (by omega) Ev.pure
    · simp only [impl_unitOf.l0]
      exact Ev.neg (by omega) Ev.pure
  · intro i hi ⟨t, a, b, c⟩
    by_cases d : ((x[i]).f0).toList = s.toList
    · refine ⟨(i : Int), Ev.step ?_, Ev.step ?_, .inr ⟨i, hi, rfl, toList_inj d⟩⟩
      · simp only [spec_l18Find.l0, rd55 x i hi]
        exact Ev.pos (by omega) (Ev.pos (by omega) (Ev.pos d Ev.pure))
      · simp only [impl_unitOf.l0, rd55 x i hi]
        exact Ev.pos (by omega) (Ev.pos (by omega) (Ev.pos (by omega) (Ev.pos d Ev.pure)))
    · refine ⟨t, Ev.step ?_, Ev.step ?_, c.imp_left fun e => ⟨e.1, ?_⟩⟩
      · simp only [spec_l18Find.l0, rd55 x i hi, upN i (by omega)]
        exact Ev.pos (by omega) (Ev.pos (by omega) (Ev.neg d a))
      · simp only [impl_unitOf.l0, rd55 x i hi, upN i (by omega)]
        exact Ev.pos (by omega) (Ev.pos (by omega) (Ev.pos (by omega) (Ev.neg d b)))
      · rw [List.drop_eq_getElem_cons hi]
        intro h
        rcases List.mem_cons.1 h with h | h
        · exact d (by rw [h])
        · exact e.2 h
theorem isAt_neg {x : List S55} {s : ByteArray} {t : Int} (h : isAt x s t) : t < 0 ↔ s ∉ namesU x := by
  rcases h with ⟨a, b⟩ | ⟨i, hi, rfl, rfl⟩
  · exact ⟨fun _ => b, fun _ => a⟩
  · exact ⟨fun h => absurd h (by omega), fun h => absurd (List.mem_map.2 ⟨x[i], List.getElem_mem hi, rfl⟩) h⟩
def hasU (x : List S55) (s : ByteArray) : Bool := hasW (namesU x) s
theorem isAt_has {x : List S55} {s : ByteArray} {t : Int} (h : isAt x s t) : t < 0 ↔ hasU x s = false := by
  rw [isAt_neg h, hasU, ← Bool.not_eq_true, hasW_iff]

-- LeftU
/-- How many of the units are not told yet. -/
def leftU (us : List S55) (S : List ByteArray) : Nat := us.countP fun u => !hasW S u.f0
theorem countP_le {α : Type} (l : List α) (p q : α → Bool) (h : ∀ x ∈ l, p x = true → q x = true) : l.countP p ≤ l.countP q := List.countP_mono_left h
theorem countP_lt {α : Type} (l : List α) (p q : α → Bool) (h : ∀ x ∈ l, p x = true → q x = true) (x : α) (hx : x ∈ l) (hp : p x = false) (hq : q x = true) : l.countP p < l.countP q := by
  induction l with
  | nil => exact absurd hx (by simp)
  | cons a r ih =>
    rw [List.countP_cons, List.countP_cons]
    have hr := countP_le r p q (fun y hy => h y (List.mem_cons_of_mem _ hy))
    rcases List.mem_cons.1 hx with rfl | hx
    · rw [hp, hq]
      simp only [Bool.false_eq_true, if_false, if_true]
      omega
    · have := ih (fun y hy => h y (List.mem_cons_of_mem _ hy)) hx
      have ha := h a List.mem_cons_self
      cases hpa : p a
      · cases hqa : q a
        · simp only [Bool.false_eq_true, if_false]
          omega
        · simp only [Bool.false_eq_true, if_false, if_true]
          omega
      · rw [ha hpa]
        simp only [if_true]
        omega
theorem leftU_le (us : List S55) (S : List ByteArray) : leftU us S ≤ us.length := List.countP_le_length
theorem hasW_mono {S T : List ByteArray} (h : ∀ s ∈ S, s ∈ T) (s : ByteArray) (hs : (!hasW T s) = true) : (!hasW S s) = true := by
  rw [Bool.not_eq_true'] at *
  rw [← Bool.not_eq_true] at *
  exact fun e => hs ((hasW_iff _ _).2 (h s ((hasW_iff _ _).1 e)))
theorem leftU_lt {us : List S55} {S T : List ByteArray} (h : ∀ s ∈ S, s ∈ T) {u : S55} (hu : u ∈ us) (h1 : u.f0 ∉ S) (h2 : u.f0 ∈ T) : leftU us T < leftU us S := by
  refine countP_lt us _ _ (fun x _ => hasW_mono h x.f0) u hu ?_ ?_
  · rw [(hasW_iff _ _).2 h2]
    rfl
  · rw [Bool.not_eq_true', ← Bool.not_eq_true]
    exact fun e => h1 ((hasW_iff _ _).1 e)

-- Strs
theorem szStringS_ev (x : List ByteArray) (hx : x.length ≤ 9223372036854775807) (m : Int) (h0 : 0 ≤ m) (h1 : m ≤ 1048576) (ok : ∀ g ∈ x, g.size ≤ 9223372036854775807) : ∃ t, Ev (fun k => laws_szStringS.f k x m) t ∧ (0 ≤ t → t ≤ m ∧ x.length ≤ 1048576) ∧ t ≤ 1048576 := by
  unfold laws_szStringS.f
  rw [w64 _ (by omega) (by omega)]
  by_cases h : m - (x.length : Int) < 0
  · exact ⟨_, Ev.pos h Ev.pure, by omega, by omega⟩
  · have key := downTo x.length (fun i => ∀ a : Int, 0 ≤ a → a ≤ 1048576 → ∃ t, Ev (fun k => laws_szStringS.l0 k x a (i : Int)) t ∧ (0 ≤ t → t ≤ a) ∧ t ≤ 1048576) ?_ ?_ 0 (by omega)
    · obtain ⟨t, a, b, c⟩ := key (m - (x.length : Int)) (by omega) (by omega)
      exact ⟨t, Ev.neg h a, by omega, c⟩
    · intro a a0 a1
      refine ⟨a, Ev.step ?_, by omega, a1⟩
      simp only [laws_szStringS.l0]
      exact Ev.neg (by omega) Ev.pure
    · intro i hi ih a a0 a1
      have hs := ok _ (List.getElem_mem hi)
      have hw : wrap64 (a - ((x[i]).size : Int)) = a - ((x[i]).size : Int) := w64 _ (by omega) (by omega)
      by_cases h2 : a - ((x[i]).size : Int) < 0
      · refine ⟨-1, Ev.step ?_, by omega, by omega⟩
        simp only [laws_szStringS.l0, rdStr x i hi, hw]
        exact Ev.pos (by omega) (Ev.pos (by omega) (Ev.pos h2 Ev.pure))
      · obtain ⟨r, hr, hr2, hr3⟩ := ih (a - ((x[i]).size : Int)) (by omega) (by omega)
        refine ⟨r, Ev.step ?_, by omega, by omega⟩
        simp only [laws_szStringS.l0, rdStr x i hi, hw, upN i (by omega)]
        exact Ev.pos (by omega) (Ev.pos (by omega) (Ev.neg h2 hr))
theorem toStringS_ev (x : List ByteArray) (hx : x.length ≤ 1048576) : Ev (fun k => laws_toStringS.f k x) x := by
  unfold laws_toStringS.f
  refine Ev.pos (by omega) (Ev.pos (by omega) ?_)
  have := setLoop (fun k y i => laws_toStringS.l0 k x y i) x (fun s => s) ?_ ?_ (List.replicate ((x.length : Int)).toNat (⟨#[]⟩ : ByteArray)) (by simp)
  · simpa using this
  · intro i y r hi hy h
    refine Ev.step ?_
    simp only [laws_toStringS.l0, rdStr x i hi, upN i (by omega)]
    exact Ev.pos (by omega) (Ev.pos (by omega) (Ev.pos (by omega) h))
  · intro y hy
    refine Ev.step ?_
    simp only [laws_toStringS.l0]
    exact Ev.neg (by omega) Ev.pure
theorem eqStringS_ev (x : List ByteArray) (hx : x.length ≤ 1048576) : Ev (fun k => laws_eqStringS.f k x x) true := by
  unfold laws_eqStringS.f
  refine Ev.pos rfl ?_
  refine countLoop (fun k i => laws_eqStringS.l0 k x x i) x.length true ?_ ?_
  · intro i hi h
    refine Ev.step ?_
    simp only [laws_eqStringS.l0, upN i (by omega)]
    exact Ev.pos (by omega) (Ev.pos (by omega) (Ev.pos (by omega) (Ev.pos trivial h)))
  · refine Ev.step ?_
    simp only [laws_eqStringS.l0]
    exact Ev.neg (by omega) Ev.pure

-- Units
def cUnit (u : S65) : S55 := ⟨u.f0, u.f1, u.f2, u.f3, u.f4⟩
theorem rd65 (l : List S65) (i : Nat) (h : i < l.length) : rd_T65 l (i : Int) = l[i] := by unfold rd_T65; simp [List.getD_eq_getElem?_getD, List.getElem?_eq_getElem h]
theorem szUnit_ev (a : ByteArray) (x y : List ByteArray) (b : ByteArray) (c : Bool) (ha : a.size ≤ 9223372036854775807) (hb : b.size ≤ 9223372036854775807) (hx : x.length ≤ 9223372036854775807) (hy : y.length ≤ 9223372036854775807)
    (okx : ∀ g ∈ x, g.size ≤ 9223372036854775807) (oky : ∀ g ∈ y, g.size ≤ 9223372036854775807) (m : Int) (h0 : 0 ≤ m) (h1 : m ≤ 1048576) :
    ∃ t, Ev (fun k => laws_szUnit.f k a x y b c m) t ∧ (0 ≤ t → t ≤ m ∧ x.length ≤ 1048576 ∧ y.length ≤ 1048576) ∧ t ≤ 1048576 := by
  unfold laws_szUnit.f
  rw [w64 (m - (a.size : Int)) (by omega) (by omega)]
  by_cases h : m - (a.size : Int) < 0
  · exact ⟨_, Ev.pos h Ev.pure, by omega, by omega⟩
  · obtain ⟨t, ht, hm, hn⟩ := szStringS_ev x hx (m - (a.size : Int)) (by omega) (by omega) okx
    by_cases h2 : t < 0
    · exact ⟨_, Ev.neg h (Ev.bind ht (Ev.pos h2 Ev.pure)), by omega, by omega⟩
    · obtain ⟨u, hu, hm2, hn2⟩ := szStringS_ev y hy t (by omega) (by omega) oky
      by_cases h3 : u < 0
      · exact ⟨_, Ev.neg h (Ev.bind ht (Ev.neg h2 (Ev.bind hu (Ev.pos h3 Ev.pure)))), by omega, by omega⟩
      · have hw : wrap64 (u - (b.size : Int)) = u - (b.size : Int) := w64 _ (by omega) (by omega)
        by_cases h4 : u - (b.size : Int) < 0
        · refine ⟨-1, Ev.neg h (Ev.bind ht (Ev.neg h2 (Ev.bind hu (Ev.neg h3 (Ev.pos ?_ Ev.pure))))), by omega, by omega⟩
          rw [hw]; exact h4
        · refine ⟨u - (b.size : Int), Ev.neg h (Ev.bind ht (Ev.neg h2 (Ev.bind hu (Ev.neg h3 ?_)))), by omega, by omega⟩
          rw [hw]
          exact Ev.neg h4 Ev.pure
theorem szUnitS_ev (x : List S65) (m : Int) (h0 : 0 ≤ m) (h1 : m ≤ 1048576) (hx : x.length ≤ 9223372036854775807)
    (ok : ∀ u ∈ x, u.f0.size ≤ 9223372036854775807 ∧ u.f3.size ≤ 9223372036854775807 ∧ (u.f1.length ≤ 9223372036854775807 ∧ ∀ g ∈ u.f1, g.size ≤ 9223372036854775807) ∧ (u.f2.length ≤ 9223372036854775807 ∧ ∀ g ∈ u.f2, g.size ≤ 9223372036854775807)) :
    ∃ t, Ev (fun k => laws_szUnitS.f k x m) t ∧ (0 ≤ t → x.length ≤ 1048576 ∧ ∀ u ∈ x, u.f1.length ≤ 1048576 ∧ u.f2.length ≤ 1048576) ∧ t ≤ 1048576 := by
  unfold laws_szUnitS.f
  rw [w64 _ (by omega) (by omega)]
  by_cases h : m - (x.length : Int) < 0
  · exact ⟨_, Ev.pos h Ev.pure, by omega, by omega⟩
  · have key := downTo x.length (fun i => ∀ a : Int, 0 ≤ a → a ≤ 1048576 → ∃ t, Ev (fun k => laws_szUnitS.l0 k x a (i : Int)) t ∧ (0 ≤ t → ∀ u ∈ x.drop i, u.f1.length ≤ 1048576 ∧ u.f2.length ≤ 1048576) ∧ t ≤ 1048576) ?_ ?_ 0 (by omega)
    · obtain ⟨t, a, b, c⟩ := key (m - (x.length : Int)) (by omega) (by omega)
      refine ⟨t, Ev.neg h a, fun h3 => ⟨by omega, ?_⟩, c⟩
      simpa using b h3
    · intro a a0 a1
      refine ⟨a, Ev.step ?_, by simp, a1⟩
      simp only [laws_szUnitS.l0]
      exact Ev.neg (by omega) Ev.pure
    · intro i hi ih a a0 a1
      obtain ⟨o1, o2, ⟨o3, o4⟩, o5, o6⟩ := ok _ (List.getElem_mem hi)
      obtain ⟨t, ht, hm, hn⟩ := szUnit_ev (x[i]).f0 (x[i]).f1 (x[i]).f2 (x[i]).f3 (x[i]).f4 o1 o2 o3 o5 o4 o6 a a0 a1
      by_cases h2 : t < 0
      · refine ⟨-1, Ev.step ?_, by omega, by omega⟩
        simp only [laws_szUnitS.l0, rd65 x i hi]
        exact Ev.pos (by omega) (Ev.pos (by omega) (Ev.bind ht (Ev.pos h2 Ev.pure)))
      · obtain ⟨r, hr, hr2, hr3⟩ := ih t (by omega) hn
        refine ⟨r, Ev.step ?_, ?_, hr3⟩
        · simp only [laws_szUnitS.l0, rd65 x i hi, upN i (by omega)]
          exact Ev.pos (by omega) (Ev.pos (by omega) (Ev.bind ht (Ev.neg h2 hr)))
        · intro h3 p hp
          rw [List.drop_eq_getElem_cons hi] at hp
          rcases List.mem_cons.1 hp with rfl | hp
          · exact (hm (by omega)).2
          · exact hr2 h3 p hp
theorem toUnitS_ev (x : List S65) (hx : x.length ≤ 1048576) (ok : ∀ u ∈ x, u.f1.length ≤ 1048576 ∧ u.f2.length ≤ 1048576) : Ev (fun k => laws_toUnitS.f k x) (x.map cUnit) := by
  unfold laws_toUnitS.f
  refine Ev.pos (by omega) (Ev.pos (by omega) ?_)
  refine setLoop (fun k y i => laws_toUnitS.l0 k x y i) x cUnit ?_ ?_ _ (by simp)
  · intro i y r hi hy h
    obtain ⟨o1, o2⟩ := ok _ (List.getElem_mem hi)
    refine Ev.step ?_
    simp only [laws_toUnitS.l0, rd65 x i hi, upN i (by omega), laws_toUnit.f]
    exact Ev.pos (by omega) (Ev.pos (by omega) (Ev.bind (Ev.bind (toStringS_ev _ o1) (Ev.bind (toStringS_ev _ o2) Ev.pure)) (Ev.pos (by omega) h)))
  · intro y hy
    refine Ev.step ?_
    simp only [laws_toUnitS.l0]
    exact Ev.neg (by omega) Ev.pure
theorem eqUnitS_ev (x : List S55) (hx : x.length ≤ 1048576) (ok : ∀ u ∈ x, u.f1.length ≤ 1048576 ∧ u.f2.length ≤ 1048576) : Ev (fun k => laws_eqUnitS.f k x x) true := by
  unfold laws_eqUnitS.f
  refine Ev.pos rfl ?_
  refine countLoop (fun k i => laws_eqUnitS.l0 k x x i) x.length true ?_ ?_
  · intro i hi h
    obtain ⟨o1, o2⟩ := ok _ (List.getElem_mem hi)
    refine Ev.step ?_
    simp only [laws_eqUnitS.l0, rd55 x i hi, upN i (by omega), laws_eqUnit.f]
    exact Ev.pos (by omega) (Ev.pos (by omega) (Ev.pos (by omega) (Ev.bind (Ev.pos trivial (Ev.bind (eqStringS_ev _ o1) (Ev.pos rfl (Ev.bind (eqStringS_ev _ o2) (Ev.pos rfl (Ev.pos trivial (Ev.neg (by simp) Ev.pure))))))) (Ev.pos rfl h))))
  · refine Ev.step ?_
    simp only [laws_eqUnitS.l0]
    exact Ev.neg (by omega) Ev.pure

-- MarkT
theorem markText_go : ∀ (n : Nat) (a : Int) (x : ByteArray), 0 ≤ a → a.toNat ≤ n → x.size + n ≤ 1000000000000000 → ∃ s, Ev (fun k => laws_markText.l0 k a x) s := by
  intro n
  induction n with
  | zero =>
    intro a x h0 h1 h2
    refine ⟨(⟨#[109]⟩ : ByteArray) ++ x, Ev.step ?_⟩
    simp only [laws_markText.l0]
    exact Ev.neg (by omega) (Ev.pos (by omega) Ev.pure)
  | succ n ih =>
    intro a x h0 h1 h2
    by_cases h : a > 0
    · have e : Int.tdiv a 10 = a / 10 := Int.tdiv_eq_ediv_of_nonneg h0
      have w : wrap64 (Int.tdiv a 10) = a / 10 := by rw [e]; unfold wrap64; omega
      obtain ⟨s, hs⟩ := ih (a / 10) (strOfNums [(wrap64 (48 + (Int.tmod a 10))) % 256] ++ x) (by omega) (by omega) (by rw [ByteArray.size_append, strOfNums_size]; simp only [List.length_singleton]; omega)
      refine ⟨s, Ev.step ?_⟩
      simp only [laws_markText.l0, w]
      refine Ev.pos h ?_
      simp only [Option.bind_some]
      exact Ev.pos (by rw [strOfNums_size]; simp only [List.length_singleton]; omega) hs
    · refine ⟨(⟨#[109]⟩ : ByteArray) ++ x, Ev.step ?_⟩
      simp only [laws_markText.l0]
      exact Ev.neg h (Ev.pos (by omega) Ev.pure)
theorem markText_ev (a : Int) (h0 : 0 ≤ a) (h1 : a ≤ 100000000000000) : ∃ s, Ev (fun k => laws_markText.f k a) s := by
  unfold laws_markText.f
  by_cases h : a ≤ 0
  · exact ⟨_, Ev.pos h Ev.pure⟩
  · obtain ⟨s, hs⟩ := markText_go a.toNat a (⟨#[]⟩ : ByteArray) h0 (Nat.le_refl _) (by show 0 + _ ≤ _; omega)
    exact ⟨s, Ev.neg h hs⟩
/-- The words that the marks from a on are. -/
def Marks (a : Int) (y : List ByteArray) : Prop := ∀ (i : Nat) (h : i < y.length), Ev (fun k => laws_markText.f k (a + (i : Int))) y[i]
theorem markStringS_ev (x : List ByteArray) (hx : x.length ≤ 10000000) (a : Int) (h0 : 0 ≤ a) (h1 : a ≤ 10000000000000) : ∃ y, y.length = x.length ∧ Marks a y ∧ Ev (fun k => laws_markStringS.f k x a) (a + x.length, y) := by
  have key := downTo x.length (fun i => ∀ y : List ByteArray, y.length = x.length → (∀ (j : Nat) (h : j < y.length), j < i → Ev (fun k => laws_markText.f k (a + (j : Int))) y[j]) → ∃ z, z.length = x.length ∧ Marks a z ∧ Ev (fun k => laws_markStringS.l0 k y (a + (i : Int)) (i : Int)) (a + x.length, z)) ?_ ?_ 0 (by omega)
  · obtain ⟨z, z1, z2, z3⟩ := key x rfl (fun j _ h => by omega)
    refine ⟨z, z1, z2, ?_⟩
    unfold laws_markStringS.f
    simpa using z3
  · intro y hy hm
    refine ⟨y, hy, fun i h => hm i h (by omega), Ev.step ?_⟩
    simp only [laws_markStringS.l0]
    exact Ev.neg (by omega) Ev.pure
  · intro i hi ih y hy hm
    obtain ⟨s, hs⟩ := markText_ev (a + (i : Int)) (by omega) (by omega)
    obtain ⟨z, z1, z2, z3⟩ := ih (y.set i s) (by simpa using hy) (fun j h hj => by
      rw [List.getElem_set]
      split
      · rename_i e
        subst e
        exact hs
      · exact hm j (by simpa using h) (by omega))
    refine ⟨z, z1, z2, Ev.step ?_⟩
    simp only [laws_markStringS.l0]
    refine Ev.pos (by omega) (Ev.bind hs (Ev.pos (by omega) ?_))
    have e1 : wrap64 (a + (i : Int) + 1) = a + ((i + 1 : Nat) : Int) := by unfold wrap64; omega
    rw [e1, upN i (by omega)]
    exact z3

-- MarkU
theorem softS_ev (n : Nat) (hn : n ≤ 10000000) (a : Int) (h0 : 0 ≤ a) (h1 : a ≤ 10000000000000) : Ev (fun k => softS k n a 0) (a + (n : Int)) := by
  have key := downTo n (fun i => Ev (fun k => softS k n (a + (i : Int)) (i : Int)) (a + (n : Int))) ?_ ?_ 0 (by omega)
  · simpa using key
  · refine Ev.step ?_
    simp only [softS]
    exact Ev.neg (by omega) Ev.pure
  · intro i hi ih
    obtain ⟨s, hs⟩ := markText_ev (a + (i : Int)) (by omega) (by omega)
    refine Ev.step ?_
    have e1 : wrap64 (a + (i : Int) + 1) = a + ((i + 1 : Nat) : Int) := by unfold wrap64; omega
    simp only [softS, e1, upN i (by omega)]
    exact Ev.pos (by omega) (Ev.pos (by omega) (Ev.bind hs ih))
theorem markUnitS_le (x : List S55) (hx : x.length ≤ 1048576) (ok : ∀ u ∈ x, u.f1.length ≤ 1048576 ∧ u.f2.length ≤ 1048576) (a : Int) (h0 : 0 ≤ a) (h1 : a ≤ 5000000000000) : ∃ r, Ev (fun k => laws_markUnitS.f k x a) r ∧ 0 ≤ r ∧ r ≤ a + (x.length : Int) * 2097155 := by
  unfold laws_markUnitS.f
  have key := downTo x.length (fun i => ∀ b : Int, 0 ≤ b → b ≤ a + (i : Int) * 2097155 → ∃ r, Ev (fun k => laws_markUnitS.l0 k x b (i : Int)) r ∧ 0 ≤ r ∧ r ≤ a + (x.length : Int) * 2097155) ?_ ?_ 0 (by omega)
  · exact key a h0 (by omega)
  · intro a h0 h1
    refine ⟨a, Ev.step ?_, h0, by omega⟩
    simp only [laws_markUnitS.l0]
    exact Ev.neg (by omega) Ev.pure
  · intro i hi ih a h0 h1
    obtain ⟨o1, o2⟩ := ok _ (List.getElem_mem hi)
    obtain ⟨s, hs⟩ := markText_ev a (by omega) (by omega)
    have e1 : wrap64 (a + 1) = a + 1 := by unfold wrap64; omega
    have m1 := softS_ev (x[i]).f1.length (by omega) (a + 1) (by omega) (by omega)
    have m2 := softS_ev (x[i]).f2.length (by omega) (a + 1 + ((x[i]).f1.length : Int)) (by omega) (by omega)
    obtain ⟨s2, hs2⟩ := markText_ev (a + 1 + ((x[i]).f1.length : Int) + ((x[i]).f2.length : Int)) (by omega) (by omega)
    have e2 : wrap64 (wrap64 (a + 1 + ((x[i]).f1.length : Int) + ((x[i]).f2.length : Int) + 1) + 1) = a + 1 + ((x[i]).f1.length : Int) + ((x[i]).f2.length : Int) + 2 := by unfold wrap64; omega
    obtain ⟨r, hr, hr2⟩ := ih (a + 1 + ((x[i]).f1.length : Int) + ((x[i]).f2.length : Int) + 2) (by omega) (by omega)
    refine ⟨r, Ev.step ?_, hr2⟩
    simp only [laws_markUnitS.l0, rd55 x i hi, upN i (by omega), e1]
    refine Ev.pos (by omega) (Ev.pos (by omega) (Ev.bind hs (Ev.bind m1 (Ev.bind m2 (Ev.bind hs2 ?_)))))
    rw [e2]
    exact hr
theorem markUnitS_ev (x : List S55) (hx : x.length ≤ 1048576) (ok : ∀ u ∈ x, u.f1.length ≤ 1048576 ∧ u.f2.length ≤ 1048576) (a : Int) (h0 : 0 ≤ a) (h1 : a ≤ 10) : ∃ r, Ev (fun k => laws_markUnitS.f k x a) r ∧ 0 ≤ r ∧ r ≤ 10000000000000 := by
  obtain ⟨r, hr, r0, r1⟩ := markUnitS_le x hx ok a h0 (by omega)
  exact ⟨r, hr, r0, by omega⟩

-- Rd62
theorem rd62 (l : List S62) (i : Nat) (h : i < l.length) : rd_T62 l (i : Int) = l[i] := by unfold rd_T62; simp [List.getD_eq_getElem?_getD, List.getElem?_eq_getElem h]

-- MarkAct
/-- What the marks from a on are. -/
def ActM (a : Int) (y : List S62) (n : Nat) : Prop := ∀ (j : Nat) (h : j < y.length), j < n → (y[j]).f0 = a + 2 * (j : Int) ∧ Ev (fun k => laws_markText.f k (a + 2 * (j : Int) + 1)) (y[j]).f1
theorem markActS_ev (x : List S62) (hx : x.length ≤ 10000000) (a : Int) (h0 : 0 ≤ a) (h1 : a ≤ 10000000000000) : ∃ y, y.length = x.length ∧ ActM a y y.length ∧ Ev (fun k => laws_markActS.f k x a) (a + 2 * (x.length : Int), y) := by
  have key := downTo x.length (fun i => ∀ y : List S62, y.length = x.length → ActM a y i → ∃ z, z.length = x.length ∧ ActM a z z.length ∧ Ev (fun k => laws_markActS.l0 k y (a + 2 * (i : Int)) (i : Int)) (a + 2 * (x.length : Int), z)) ?_ ?_ 0 (by omega)
  · obtain ⟨z, z1, z2, z3⟩ := key x rfl (fun j _ h => by omega)
    refine ⟨z, z1, z2, ?_⟩
    unfold laws_markActS.f
    simpa using z3
  · intro y hy hm
    refine ⟨y, hy, by rw [hy]; exact hm, Ev.step ?_⟩
    simp only [laws_markActS.l0]
    exact Ev.neg (by omega) Ev.pure
  · intro i hi ih y hy hm
    obtain ⟨s, hs⟩ := markText_ev (a + 2 * (i : Int) + 1) (by omega) (by omega)
    have e1 : wrap64 (a + 2 * (i : Int) + 1) = a + 2 * (i : Int) + 1 := by unfold wrap64; omega
    have e2 : wrap64 (a + 2 * (i : Int) + 1 + 1) = a + 2 * ((i + 1 : Nat) : Int) := by unfold wrap64; omega
    obtain ⟨z, z1, z2, z3⟩ := ih (y.set i (⟨a + 2 * (i : Int), s⟩ : S62)) (by simp [hy]) (by
      intro j hj hji
      rw [List.getElem_set]
      split
      · rename_i e
        subst e
        exact ⟨rfl, hs⟩
      · exact hm j (by simpa using hj) (by omega))
    refine ⟨z, z1, z2, Ev.step ?_⟩
    have hy' : i < y.length := by omega
    simp only [laws_markActS.l0, e1, e2, upN i (by omega), Int.toNat_natCast, Option.bind_some]
    have e3 : rd_T62 (y.set i (⟨a + 2 * (i : Int), (rd_T62 y (i : Int)).f1⟩ : S62)) (i : Int) = (⟨a + 2 * (i : Int), (rd_T62 y (i : Int)).f1⟩ : S62) := by
      rw [rd62 _ i (by simpa using hy')]
      simp
    simp only [e3, List.set_set]
    exact Ev.pos (by omega) (Ev.pos (by omega) (Ev.bind hs z3))
theorem heldActS_ev (y : List S62) (hy : y.length ≤ 10000000) (a : Int) (h0 : 0 ≤ a) (h1 : a ≤ 10000000000000) (hm : ActM a y y.length) : Ev (fun k => laws_heldActS.f k y a) (a + 2 * (y.length : Int)) := by
  unfold laws_heldActS.f
  have key := downTo y.length (fun i => Ev (fun k => laws_heldActS.l0 k y (a + 2 * (i : Int)) (i : Int)) (a + 2 * (y.length : Int))) ?_ ?_ 0 (by omega)
  · simpa using key
  · refine Ev.step ?_
    simp only [laws_heldActS.l0]
    exact Ev.neg (by omega) Ev.pure
  · intro i hi ih
    obtain ⟨m1, m2⟩ := hm i hi hi
    have e1 : wrap64 (a + 2 * (i : Int) + 1) = a + 2 * (i : Int) + 1 := by unfold wrap64; omega
    have e2 : wrap64 (a + 2 * (i : Int) + 1 + 1) = a + 2 * ((i + 1 : Nat) : Int) := by unfold wrap64; omega
    refine Ev.step ?_
    simp only [laws_heldActS.l0, e1, e2, upN i (by omega), rd62 y i hi]
    exact Ev.pos (by omega) (Ev.pos (by omega) (Ev.pos m1 (Ev.bind m2 (Ev.pos rfl ih))))
theorem eqActS_ev (x : List S62) (hx : x.length ≤ 1048576) : Ev (fun k => laws_eqActS.f k x x) true := by
  unfold laws_eqActS.f
  refine Ev.pos rfl ?_
  refine countLoop (fun k i => laws_eqActS.l0 k x x i) x.length true ?_ ?_
  · intro i hi h
    refine Ev.step ?_
    simp only [laws_eqActS.l0, upN i (by omega)]
    refine Ev.pos (by omega) (Ev.pos (by omega) (Ev.pos (by omega) (Ev.cons (a := true) ?_ (Ev.pos rfl h))))
    unfold laws_eqAct.f
    rw [if_pos rfl, if_pos rfl]
  · refine Ev.step ?_
    simp only [laws_eqActS.l0]
    exact Ev.neg (by omega) Ev.pure

-- StartOrder
/-- Does all that a unit waits for stand in S? -/
def readyU (us : List S55) (S : List ByteArray) (u : S55) : Bool := (u.f2.all fun n => hasW S n) && u.f1.all fun n => !hasU us n || hasW S n
def nextU (us : List S55) (S : List ByteArray) (u : S55) : Bool := !hasW S u.f0 && readyU us S u
/-- The first of the units that can be started is started. -/
def pickU (us : List S55) (S : List ByteArray) (l : List S55) : List ByteArray := match l.find? (nextU us S) with
  | some u => S ++ [u.f0]
  | none => S
def ordIt (us : List S55) : Nat → List ByteArray → List ByteArray
  | 0, S => S
  | n + 1, S => ordIt us n (pickU us S us)
def ordered (us : List S55) : List ByteArray := ordIt us us.length []
theorem pickU_cons (us : List S55) (S : List ByteArray) (u : S55) (l : List S55) : pickU us S (u :: l) = if nextU us S u = true then S ++ [u.f0] else pickU us S l := by
  unfold pickU
  rw [List.find?_cons]
  cases nextU us S u <;> rfl
theorem pickU_len (us : List S55) (S : List ByteArray) (l : List S55) : (pickU us S l).length ≤ S.length + 1 := by
  unfold pickU
  split
  · simp
  · omega
theorem ordIt_fix {us : List S55} {S : List ByteArray} (h : pickU us S us = S) : ∀ n, ordIt us n S = S := by
  intro n
  induction n with
  | zero => rfl
  | succ n ih =>
    unfold ordIt
    rw [h]
    exact ih
theorem ordIt_len (us : List S55) : ∀ (n : Nat) (S : List ByteArray), (ordIt us n S).length ≤ S.length + n := by
  intro n
  induction n with
  | zero => intro S; simp [ordIt]
  | succ n ih =>
    intro S
    have h1 := ih (pickU us S us)
    have h2 := pickU_len us S us
    unfold ordIt
    omega
/-! ### The reference's run -/
theorem ready_ev (us : List S55) (hu : us.length ≤ 100) (S : List ByteArray) (hS : S.length ≤ 1000) (u : S55) (h1 : u.f1.length ≤ 20) (h2 : u.f2.length ≤ 20) : Ev (fun k => spec_l18Ready.f k us u.f0 u.f1 u.f2 u.f3 u.f4 S) (readyU us S u) := by
  have A : Ev (fun k => spec_l18Ready.l1 k us S 0 u.f0 u.f1 u.f2 u.f3 u.f4) (u.f1.all fun n => !hasU us n || hasW S n) := by
    have key := downTo u.f1.length (fun i => Ev (fun k => spec_l18Ready.l1 k us S (i : Int) u.f0 u.f1 u.f2 u.f3 u.f4) ((u.f1.drop i).all fun n => !hasU us n || hasW S n)) ?_ ?_ 0 (by omega)
    · simpa using key
    · refine Ev.step ?_
      simp only [spec_l18Ready.l1, List.drop_length]
      exact Ev.neg (by omega) Ev.pure
    · intro i hi ih
      rw [List.drop_eq_getElem_cons hi, List.all_cons]
      refine Ev.step ?_
      simp only [spec_l18Ready.l1, rdStr u.f1 i hi, upN i (by omega)]
      obtain ⟨t, ht, _, ha⟩ := find_ev us (by omega) (u.f1[i])
      have hn := isAt_has ha
      refine Ev.pos (by omega) (Ev.pos (by omega) (Ev.bind ht ?_))
      by_cases c : t < 0
      · rw [hn.1 c]
        exact Ev.neg (by omega) (by simpa using ih)
      · have e : hasU us (u.f1[i]) = true := by
          rw [← Bool.not_eq_false]
          exact fun e => c (hn.2 e)
        rw [e]
        refine Ev.pos (by omega) (Ev.bind (has_ev S (u.f1[i]) (by omega)) ?_)
        cases hasW S (u.f1[i])
        · exact Ev.neg (by simp) Ev.pure
        · exact Ev.pos rfl (by simpa using ih)
  unfold spec_l18Ready.f readyU
  have key := downTo u.f2.length (fun i => Ev (fun k => spec_l18Ready.l0 k us S (i : Int) u.f0 u.f1 u.f2 u.f3 u.f4) (((u.f2.drop i).all fun n => hasW S n) && u.f1.all fun n => !hasU us n || hasW S n)) ?_ ?_ 0 (by omega)
  · simpa using key
  · refine Ev.step ?_
    simp only [spec_l18Ready.l0, List.drop_length]
    exact Ev.neg (by omega) (by simpa using A)
  · intro i hi ih
    rw [List.drop_eq_getElem_cons hi, List.all_cons]
    refine Ev.step ?_
    simp only [spec_l18Ready.l0, rdStr u.f2 i hi, upN i (by omega)]
    refine Ev.pos (by omega) (Ev.pos (by omega) (Ev.bind (has_ev S (u.f2[i]) (by omega)) ?_))
    cases hasW S (u.f2[i])
    · exact Ev.neg (by simp) Ev.pure
    · exact Ev.pos rfl (by simpa using ih)
theorem specOrder_ev (us : List S55) (b : Bool) (hb : Ev (fun k => spec_UnitsOk.f k us) b) (hu : b = true → UOk us) : Ev (fun k => spec_StartOrder.f k us) (if b = true then (ordered us, ((ordered us).length : Int) == (us.length : Int)) else ([], false)) := by
  unfold spec_StartOrder.f
  refine Ev.cons rfl (Ev.bind hb ?_)
  by_cases c : b = true
  · have hu := hu c
    have hl := hu.len
    rw [if_pos c]
    refine Ev.pos c ?_
    have key := downTo us.length (fun n => ∀ S : List ByteArray, S.length ≤ n → ordIt us (us.length - n) S = ordered us → Ev (fun k => spec_StartOrder.l0 k us S (n : Int)) (ordered us, ((ordered us).length : Int) == (us.length : Int))) ?_ ?_ 0 (by omega)
    · exact key [] (by simp) rfl
    · intro S hS h
      rw [Nat.sub_self] at h
      refine Ev.step ?_
      simp only [spec_StartOrder.l0]
      rw [← h]
      exact Ev.neg (by omega) Ev.pure
    · intro n hn ih S hS h
      refine Ev.step ?_
      simp only [spec_StartOrder.l0]
      refine Ev.pos (by omega) ?_
      have h2 : Ev (fun k => spec_StartOrder.l0 k us (pickU us S us) ((n + 1 : Nat) : Int)) (ordered us, ((ordered us).length : Int) == (us.length : Int)) := by
        refine ih _ (by have := pickU_len us S us; omega) ?_
        rw [← h, show us.length - n = (us.length - (n + 1)) + 1 by omega]
        rfl
      have key := downTo us.length (fun i => Ev (fun k => spec_StartOrder.l0 k us (pickU us S (us.drop i)) ((n + 1 : Nat) : Int)) (ordered us, ((ordered us).length : Int) == (us.length : Int)) → Ev (fun k => spec_StartOrder.l1 k us S (n : Int) (i : Int)) (ordered us, ((ordered us).length : Int) == (us.length : Int))) ?_ ?_ 0 (by omega)
      · exact key (by simpa using h2)
      · intro h
        rw [List.drop_length] at h
        refine Ev.step ?_
        simp only [spec_StartOrder.l1, upN n (by omega)]
        exact Ev.neg (by omega) h
      · intro i hi ih h
        rw [List.drop_eq_getElem_cons hi, pickU_cons] at h
        have hc := hu.cnt _ (List.getElem_mem hi)
        refine Ev.step ?_
        simp only [spec_StartOrder.l1, rd55 us i hi, upN i (by omega), upN n (by omega)]
        refine Ev.pos (by omega) (Ev.pos (by omega) (Ev.bind (has_ev S _ (by omega)) ?_))
        unfold nextU at h
        by_cases d : hasW S (us[i]).f0 = true
        · rw [d] at h
          exact Ev.pos d (ih (by simpa using h))
        · rw [Bool.eq_false_iff.mpr d] at h
          refine Ev.neg d (Ev.bind (ready_ev us hl S (by omega) (us[i]) hc.1 hc.2) ?_)
          by_cases e : readyU us S us[i] = true
          · rw [e] at h
            exact Ev.pos e (Ev.pos (by omega) (by simpa using h))
          · rw [Bool.eq_false_iff.mpr e] at h
            exact Ev.neg e (ih (by simpa using h))
  · rw [if_neg c]
    exact Ev.neg c Ev.pure
/-! ### The program's run -/
theorem foldl_insS_len (l : List ByteArray) : ∀ a : List ByteArray, (l.foldl insS a).length ≤ a.length + l.length := by
  induction l with
  | nil => intro a; simp
  | cons s r ih =>
    intro a
    have h1 := ih (insS a s)
    have h2 : (insS a s).length ≤ a.length + 1 := by
      induction a with
      | nil => simp [insS]
      | cons x a iha =>
        unfold insS
        repeat' split
        all_goals simp only [List.length_cons]
        all_goals first | omega | (have := iha (by have := ih (insS a s); omega); omega)
    rw [List.foldl_cons, List.length_cons]
    omega
theorem waits_ev (us : List S55) (hu : us.length ≤ 100) (u : S55) (h1 : u.f1.length ≤ 20) (h2 : u.f2.length ≤ 20) (z1 : ∀ s ∈ u.f1, s.size ≤ 9223372036854775807) (z2 : ∀ s ∈ u.f2, s.size ≤ 9223372036854775807) :
    ∃ W : List ByteArray, Ev (fun k => impl_waits.f k us u.f0 u.f1 u.f2 u.f3 u.f4) W ∧ asc W ∧ W.length ≤ 40 ∧ ∀ s, s ∈ W ↔ s ∈ u.f2 ∨ (s ∈ u.f1 ∧ hasU us s = true) := by
  have key := downTo u.f1.length (fun i => ∀ X : List ByteArray, X.length ≤ 20 + i → (∀ s ∈ X, s.size ≤ 9223372036854775807) → ∃ W : List ByteArray, Ev (fun k => impl_waits.l0 k us X u.f1 (u.f1.length : Int) (i : Int)) W ∧ asc W ∧ W.length ≤ 40 ∧ ∀ s, s ∈ W ↔ s ∈ X ∨ (s ∈ u.f1.drop i ∧ hasU us s = true)) ?_ ?_ 0 (by omega)
  · obtain ⟨W, a, b, c, d⟩ := key u.f2 (by omega) z2
    refine ⟨W, ?_, b, c, by simpa using d⟩
    unfold impl_waits.f
    exact Ev.cons rfl (Ev.pos (by simp; omega) (by simpa using a))
  · intro X hX hz
    refine ⟨X.foldl insS [], Ev.step ?_, sortW_asc X [] List.Pairwise.nil, by have := foldl_insS_len X []; simp only [List.length_nil] at this; omega, fun s => ?_⟩
    · simp only [impl_waits.l0]
      refine Ev.neg (by omega) (Ev.cons ?_ Ev.pure)
      unfold impl_sortedSet.f
      rw [if_pos ⟨by omega, List.all_eq_true.2 fun s hs => decide_eq_true (hz s hs)⟩]
    · rw [sortW_mem, List.drop_length]
      simp
  · intro i hi ih X hX hz
    obtain ⟨t, _, ht, ha⟩ := find_ev us (by omega) (u.f1[i])
    have hn := isAt_has ha
    by_cases c : t < 0
    · obtain ⟨W, a, b, c', d⟩ := ih X (by omega) hz
      refine ⟨W, Ev.step ?_, b, c', fun s => (d s).trans ?_⟩
      · simp only [impl_waits.l0, rdStr u.f1 i hi, upN i (by omega)]
        exact Ev.pos (by omega) (Ev.pos (by omega) (Ev.pos (by omega) (Ev.bind ht (Ev.neg (by omega) a))))
      · rw [List.drop_eq_getElem_cons hi, List.mem_cons]
        constructor
        · rintro (h | h)
          · exact .inl h
          · exact .inr ⟨.inr h.1, h.2⟩
        · rintro (h | ⟨rfl | h, q⟩)
          · exact .inl h
          · rw [hn.1 c] at q
            cases q
          · exact .inr ⟨h, q⟩
    · have e : hasU us (u.f1[i]) = true := by
        rw [← Bool.not_eq_false]
        exact fun e => c (hn.2 e)
      obtain ⟨W, a, b, c', d⟩ := ih (X ++ [u.f1[i]]) (by simp; omega) (fun s hs => by
        rcases List.mem_append.1 hs with h | h
        · exact hz s h
        · have : s = u.f1[i] := by simpa using h
          rw [this]
          exact z1 _ (List.getElem_mem hi))
      refine ⟨W, Ev.step ?_, b, c', fun s => (d s).trans ?_⟩
      · simp only [impl_waits.l0, rdStr u.f1 i hi, upN i (by omega)]
        exact Ev.pos (by omega) (Ev.pos (by omega) (Ev.pos (by omega) (Ev.bind ht (Ev.pos (by omega) (Ev.pos (by omega) a)))))
      · rw [List.drop_eq_getElem_cons hi, List.mem_cons, List.mem_append, List.mem_singleton]
        constructor
        · rintro ((h | h) | h)
          · exact .inl h
          · exact .inr ⟨.inl h, by rw [h]; exact e⟩
          · exact .inr ⟨.inr h.1, h.2⟩
        · rintro (h | ⟨h | h, q⟩)
          · exact .inl (.inl h)
          · exact .inl (.inr h)
          · exact .inr ⟨h, q⟩
theorem ready_waits {us : List S55} {S W : List ByteArray} {u : S55} (h : ∀ s, s ∈ W ↔ s ∈ u.f2 ∨ (s ∈ u.f1 ∧ hasU us s = true)) : (W.all fun w => hasW S w) = readyU us S u := by
  rw [Bool.eq_iff_iff]
  unfold readyU
  rw [Bool.and_eq_true, List.all_eq_true, List.all_eq_true, List.all_eq_true]
  constructor
  · intro g
    refine ⟨fun n hn => g n ((h n).2 (.inl hn)), fun n hn => ?_⟩
    cases e : hasU us n
    · rfl
    · rw [g n ((h n).2 (.inr ⟨hn, e⟩))]
      rfl
  · rintro ⟨g1, g2⟩ n hn
    rcases (h n).1 hn with hn | ⟨hn, e⟩
    · exact g1 n hn
    · have := g2 n hn
      rw [e] at this
      simpa using this
theorem implWait_ev (us : List S55) (S : List ByteArray) (hS : S.length ≤ 100000) (m : Bool) (i : Nat) (hi : i < 1000) (u : S55) (W : List ByteArray) (hW : W.length ≤ 40) (r : List ByteArray)
    (h : Ev (fun k => if (W.all fun w => hasW S w) = true then impl_startOrder.l0 k us (S ++ [u.f0]) (S ++ [u.f0]) true else impl_startOrder.l1 k us S S m us (us.length : Int) ((i + 1 : Nat) : Int)) r) :
    Ev (fun k => impl_startOrder.l2 k us S S m true us (us.length : Int) (i : Int) W (W.length : Int) 0 u.f0 u.f1 u.f2 u.f3 u.f4) r := by
  have key := downTo W.length (fun j => ∀ b : Bool, (b && (W.drop j).all fun w => hasW S w) = (W.all fun w => hasW S w) → Ev (fun k => impl_startOrder.l2 k us S S m b us (us.length : Int) (i : Int) W (W.length : Int) (j : Int) u.f0 u.f1 u.f2 u.f3 u.f4) r) ?_ ?_ 0 (by omega)
  · exact key true (by simp)
  · intro b hb
    rw [List.drop_length, List.all_nil, Bool.and_true] at hb
    rw [← hb] at h
    refine Ev.step ?_
    simp only [impl_startOrder.l2, upN i (by omega)]
    refine Ev.neg (by omega) ?_
    cases b
    · exact Ev.neg (by simp) (by simpa using h)
    · exact Ev.pos rfl (Ev.pos (by omega) (Ev.pos (by omega) (by simpa using h)))
  · intro j hj ih b hb
    rw [List.drop_eq_getElem_cons hj, List.all_cons] at hb
    refine Ev.step ?_
    simp only [impl_startOrder.l2, rdStr W j hj, upN j (by omega)]
    refine Ev.pos (by omega) (Ev.pos (by omega) (Ev.pos (by omega) ?_))
    cases b
    · exact Ev.neg (by simp) (ih false (by rw [← hb]; simp))
    · exact Ev.pos rfl (Ev.cons rfl (ih _ (by rw [← hb]; simp)))
theorem implOrder_ev (us : List S55) (hu : UOk us) (hz : ∀ u ∈ us, u.f0.size ≤ 9223372036854775807 ∧ (∀ s ∈ u.f1, s.size ≤ 9223372036854775807) ∧ ∀ s ∈ u.f2, s.size ≤ 9223372036854775807) : Ev (fun k => impl_startOrder.f k us) (ordered us) := by
  have hl := hu.len
  unfold impl_startOrder.f
  refine Ev.pos (List.all_eq_true.2 fun u h => decide_eq_true (hz u h).1) ?_
  have round : ∀ (S : List ByteArray) (r : List ByteArray), S.length ≤ 1000 → Ev (fun k => impl_startOrder.l0 k us (pickU us S us) (pickU us S us) (us.any (nextU us S))) r → Ev (fun k => impl_startOrder.l0 k us S S true) r := by
    intro S r hS h
    refine Ev.step ?_
    simp only [impl_startOrder.l0]
    refine Ev.pos trivial ?_
    have key := downTo us.length (fun i => Ev (fun k => impl_startOrder.l0 k us (pickU us S (us.drop i)) (pickU us S (us.drop i)) ((us.drop i).any (nextU us S))) r → Ev (fun k => impl_startOrder.l1 k us S S false us (us.length : Int) (i : Int)) r) ?_ ?_ 0 (by omega)
    · exact key (by simpa using h)
    · intro h
      rw [List.drop_length] at h
      refine Ev.step ?_
      simp only [impl_startOrder.l1]
      exact Ev.neg (by omega) h
    · intro i hi ih h
      rw [List.drop_eq_getElem_cons hi, pickU_cons, List.any_cons] at h
      have hc := hu.cnt _ (List.getElem_mem hi)
      obtain ⟨q0, q1, q2⟩ := hz _ (List.getElem_mem hi)
      refine Ev.step ?_
      simp only [impl_startOrder.l1, rd55 us i hi, upN i (by omega)]
      refine Ev.pos (by omega) (Ev.pos (by omega) (Ev.pos (by omega) (Ev.cons rfl ?_)))
      rw [show nextU us S us[i] = (!hasW S (us[i]).f0 && readyU us S us[i]) from rfl] at h
      by_cases d : hasW S (us[i]).f0 = true
      · rw [d] at h
        exact Ev.pos d (ih (by simpa using h))
      · rw [Bool.eq_false_iff.mpr d] at h
        obtain ⟨W, w1, w2, w3, w4⟩ := waits_ev us hl (us[i]) hc.1 hc.2 q1 q2
        refine Ev.neg d (Ev.bind w1 (Ev.pos ?_ (implWait_ev us S (by omega) false i (by omega) (us[i]) W w3 r ?_)))
        · refine List.all_eq_true.2 fun s hs => decide_eq_true ?_
          rcases (w4 s).1 hs with hs | hs
          · exact q2 s hs
          · exact q1 s hs.1
        · rw [ready_waits w4]
          by_cases e : readyU us S us[i] = true
          · rw [e] at h
            exact Ev.pos e (by simpa using h)
          · rw [Bool.eq_false_iff.mpr e] at h
            exact Ev.neg e (ih (by simpa using h))
  have stop : ∀ S : List ByteArray, Ev (fun k => impl_startOrder.l0 k us S S false) S := fun S => by
    refine Ev.step ?_
    simp only [impl_startOrder.l0]
    exact Ev.neg (by simp) Ev.pure
  have main : ∀ (n : Nat) (S : List ByteArray), leftU us S ≤ n → S.length + n ≤ 100 → Ev (fun k => impl_startOrder.l0 k us S S true) (ordIt us n S) := by
    intro n
    induction n with
    | zero =>
      intro S h0 h1
      have e : us.any (nextU us S) = false := by
        rw [List.any_eq_false]
        intro u hu hn
        have := List.countP_eq_zero.1 (Nat.le_zero.1 h0) u hu
        unfold nextU at hn
        rw [Bool.and_eq_true] at hn
        exact this hn.1
      have f : pickU us S us = S := by
        unfold pickU
        rw [List.find?_eq_none.2 (by rw [List.any_eq_false] at e; exact e)]
      refine round S _ (by omega) ?_
      rw [e, f]
      exact stop S
    | succ n ih =>
      intro S h0 h1
      refine round S _ (by omega) ?_
      cases e : us.find? (nextU us S) with
      | none =>
        have f : pickU us S us = S := by
          unfold pickU
          rw [e]
        have e' : us.any (nextU us S) = false := by
          rw [List.any_eq_false]
          exact List.find?_eq_none.1 e
        rw [e', f, ordIt_fix f]
        exact stop S
      | some u =>
        have f : pickU us S us = S ++ [u.f0] := by
          unfold pickU
          rw [e]
        have hm := List.mem_of_find?_eq_some e
        have hp := List.find?_some e
        have e' : us.any (nextU us S) = true := List.any_eq_true.2 ⟨u, hm, hp⟩
        unfold nextU at hp
        rw [Bool.and_eq_true, Bool.not_eq_true', ← Bool.not_eq_true] at hp
        have hlt : leftU us (S ++ [u.f0]) < leftU us S := leftU_lt (fun s hs => by simp [hs]) hm (fun h => hp.1 ((hasW_iff _ _).2 h)) (by simp)
        rw [e']
        unfold ordIt
        rw [f]
        exact ih _ (by omega) (by simp; omega)
  exact main us.length [] (leftU_le _ _) (by simpa using hl)

-- PlanU
theorem inList_ev (l : List ByteArray) (s : ByteArray) (hl : l.length ≤ 1000000000) : Ev (fun k => impl_inList.f k l s) (hasW l s) := by
  unfold impl_inList.f
  have key := downTo l.length (fun i => Ev (fun k => impl_inList.l0 k s l (l.length : Int) (i : Int)) (hasW (l.drop i) s)) ?_ ?_ 0 (by omega)
  · simpa using key
  · refine Ev.step ?_
    simp only [impl_inList.l0, List.drop_length]
    exact Ev.neg (by omega) Ev.pure
  · intro i hi ih
    refine Ev.step ?_
    simp only [impl_inList.l0, rdStr l i hi, upN i (by omega)]
    rw [List.drop_eq_getElem_cons hi]
    refine Ev.pos (by omega) (Ev.pos (by omega) (Ev.pos (by omega) ?_))
    by_cases c : (l[i]).toList = s.toList
    · have e : hasW (l[i] :: l.drop (i + 1)) s = true := by
        unfold hasW
        rw [List.any_cons, decide_eq_true c, Bool.true_or]
      rw [e]
      exact Ev.pos c Ev.pure
    · have e : hasW (l[i] :: l.drop (i + 1)) s = hasW (l.drop (i + 1)) s := by
        unfold hasW
        rw [List.any_cons, decide_eq_false c, Bool.false_or]
      rw [e]
      exact Ev.neg c ih
/-- The names of those that are not in a row, the last first. -/
def restOf (o : List ByteArray) (l : List S55) : List ByteArray := (l.reverse.filter fun u => !hasW o u.f0).map fun u => u.f0
def stopOf (new : List S55) (run l : List ByteArray) : List S62 := (l.filter fun s => hasW run s && !hasU new s).map fun s => (⟨1, s⟩ : S62)
def again (old new : List S55) (s : ByteArray) : Bool := old.any fun a => decide (a.f0 = s) && new.any fun b => decide (b.f0 = s) && (!decide (a.f3.toList = b.f3.toList) && !b.f4)
def startOf (old new : List S55) (run : List ByteArray) (s : ByteArray) : List S62 := if hasW run s = true then (if again old new s = true then [(⟨3, s⟩ : S62)] else []) else [(⟨2, s⟩ : S62)]
def stopsU (old : List S55) : List ByteArray := restOf (ordered old) old ++ (ordered old).reverse
def planU (old new : List S55) (run : List ByteArray) : List S62 := stopOf new run (stopsU old) ++ (ordered new).flatMap (startOf old new run)
theorem UOk.at_any {us : List S55} (h : UOk us) {i : Nat} (hi : i < us.length) (p : S55 → Bool) : (us.any fun a => decide (a.f0 = (us[i]).f0) && p a) = p us[i] := by
  rw [Bool.eq_iff_iff, List.any_eq_true]
  constructor
  · rintro ⟨a, ha, hp⟩
    obtain ⟨j, hj, rfl⟩ := List.getElem_of_mem ha
    rw [Bool.and_eq_true, decide_eq_true_eq] at hp
    have := h.inj hj hi hp.1
    subst this
    exact hp.2
  · intro hp
    exact ⟨us[i], List.getElem_mem hi, by rw [Bool.and_eq_true, decide_eq_true_eq]; exact ⟨rfl, hp⟩⟩
theorem no_any {us : List S55} {s : ByteArray} (h : s ∉ namesU us) (p : S55 → Bool) : (us.any fun a => decide (a.f0 = s) && p a) = false := by
  rw [List.any_eq_false]
  intro a ha hp
  rw [Bool.and_eq_true, decide_eq_true_eq] at hp
  exact h (List.mem_map.2 ⟨a, ha, hp.1⟩)
theorem again_at {old new : List S55} (ho : UOk old) (hn : UOk new) {i j : Nat} (hi : i < old.length) (hj : j < new.length) (e : (old[i]).f0 = (new[j]).f0) : again old new (new[j]).f0 = (!decide ((old[i]).f3.toList = (new[j]).f3.toList) && !(new[j]).f4) := by
  unfold again
  rw [← e, ho.at_any hi, e, hn.at_any hj]
theorem again_no {old new : List S55} {s : ByteArray} (h : s ∉ namesU old) : again old new s = false := no_any h _
theorem pickU_mem (us : List S55) (S : List ByteArray) (l : List S55) (h : ∀ u ∈ l, u ∈ us) (hS : ∀ s ∈ S, s ∈ namesU us) : ∀ s ∈ pickU us S l, s ∈ namesU us := by
  intro s hs
  unfold pickU at hs
  split at hs
  · rename_i u e
    rcases List.mem_append.1 hs with hs | hs
    · exact hS s hs
    · rw [List.mem_singleton.1 hs]
      exact List.mem_map.2 ⟨u, h u (List.mem_of_find?_eq_some e), rfl⟩
  · exact hS s hs
theorem ordIt_mem (us : List S55) : ∀ (n : Nat) (S : List ByteArray), (∀ s ∈ S, s ∈ namesU us) → ∀ s ∈ ordIt us n S, s ∈ namesU us := by
  intro n
  induction n with
  | zero => intro S h; exact h
  | succ n ih => intro S h; exact ih _ (pickU_mem us S us (fun _ h => h) h)
theorem ordered_mem (us : List S55) : ∀ s ∈ ordered us, s ∈ namesU us := ordIt_mem us us.length [] (fun _ h => absurd h (by simp))
theorem ordered_len (us : List S55) : (ordered us).length ≤ us.length := by
  have := ordIt_len us us.length []
  simpa [ordered] using this
theorem restOf_len (o : List ByteArray) (l : List S55) : (restOf o l).length ≤ l.length := by
  unfold restOf
  rw [List.length_map]
  exact Nat.le_trans (List.length_filter_le _ _) (by simp)
theorem restOf_take (o : List ByteArray) (l : List S55) (i : Nat) (h : i < l.length) : restOf o (l.take (i + 1)) = (if hasW o (l[i]).f0 = true then [] else [(l[i]).f0]) ++ restOf o (l.take i) := by
  unfold restOf
  rw [← List.take_append_getElem h, List.reverse_append, List.reverse_singleton, List.singleton_append, List.filter_cons]
  by_cases c : hasW o (l[i]).f0 = true
  · rw [if_pos c, if_neg (by rw [c]; simp)]
    rfl
  · rw [if_neg c, if_pos (by simpa using c)]
    rfl
theorem rev_take (o : List ByteArray) (i : Nat) (h : i < o.length) : (o.take (i + 1)).reverse = o[i] :: (o.take i).reverse := by
  rw [← List.take_append_getElem h, List.reverse_append]
  rfl
theorem stopOf_drop (new : List S55) (run l : List ByteArray) (i : Nat) (h : i < l.length) : stopOf new run (l.drop i) = (if hasW run l[i] = true ∧ hasU new l[i] = false then [(⟨1, l[i]⟩ : S62)] else []) ++ stopOf new run (l.drop (i + 1)) := by
  unfold stopOf
  rw [List.drop_eq_getElem_cons h, List.filter_cons]
  by_cases c : hasW run l[i] = true ∧ hasU new l[i] = false
  · rw [if_pos c, if_pos (by rw [c.1, c.2]; rfl)]
    rfl
  · rw [if_neg c, if_neg (fun e => c (by simpa using e))]
    rfl
theorem dnI (i : Nat) (h : i < 1000000000000000) : wrap64 ((i : Int) - 1) = (i : Int) - 1 := w64 _ (by omega) (by omega)
theorem sub1 (i : Nat) : (((i + 1 : Nat) : Int) - 1) = (i : Int) := by omega
theorem specPlan3_ev (old new : List S55) (hold : UOk old) (hnew : UOk new) (run : List ByteArray) (hr : run.length ≤ 2000) (o : List ByteArray) (ho : o.length ≤ 100) (hm : ∀ s ∈ o, s ∈ namesU new) (acts : List S62) (ha : acts.length ≤ 1000) :
    Ev (fun k => spec_PlanUnits.l3 k old new run acts o 0) (acts ++ o.flatMap (startOf old new run)) := by
  have n1 := hnew.len
  have n2 := hold.len
  have key := downTo o.length (fun i => ∀ acts : List S62, acts.length ≤ 1000 + i → Ev (fun k => spec_PlanUnits.l3 k old new run acts o (i : Int)) (acts ++ (o.drop i).flatMap (startOf old new run))) ?_ ?_ 0 (by omega)
  · exact key acts (by omega)
  · intro acts _
    refine Ev.step ?_
    simp only [spec_PlanUnits.l3, List.drop_length, List.flatMap_nil, List.append_nil]
    exact Ev.neg (by omega) Ev.pure
  · intro i hi ih acts hl
    have hin := hm _ (List.getElem_mem hi)
    obtain ⟨t, ts, ti, ta⟩ := find_ev new (by omega) (o[i])
    rcases ta with ⟨_, a⟩ | ⟨p, hp, rfl, e⟩
    · exact absurd hin a
    obtain ⟨q, qs, qi, qa⟩ := find_ev old (by omega) (o[i])
    have hf : (o.drop i).flatMap (startOf old new run) = startOf old new run o[i] ++ (o.drop (i + 1)).flatMap (startOf old new run) := by rw [List.drop_eq_getElem_cons hi, List.flatMap_cons]
    rw [hf]
    have skip : startOf old new run o[i] = [] → Ev (fun k => spec_PlanUnits.l3 k old new run acts o ((i + 1 : Nat) : Int)) (acts ++ (startOf old new run o[i] ++ (o.drop (i + 1)).flatMap (startOf old new run))) := by
      intro e
      rw [e, List.nil_append]
      exact ih acts (by omega)
    have put : ∀ x : S62, startOf old new run o[i] = [x] → Ev (fun k => spec_PlanUnits.l3 k old new run (acts ++ [x]) o ((i + 1 : Nat) : Int)) (acts ++ (startOf old new run o[i] ++ (o.drop (i + 1)).flatMap (startOf old new run))) := by
      intro x e
      rw [e, ← List.append_assoc]
      exact ih _ (by simp; omega)
    refine Ev.step ?_
    simp only [spec_PlanUnits.l3, rdStr o i hi, upN i (by omega)]
    refine Ev.pos (by omega) (Ev.pos (by omega) (Ev.bind ts (Ev.pos (by omega) (Ev.pos (by omega) (Ev.bind qs (Ev.bind (has_ev run o[i] (by omega)) ?_))))))
    by_cases c : hasW run o[i] = true
    · refine Ev.pos c (?_)
      rcases qa with ⟨a, b⟩ | ⟨j, hj, rfl, f⟩
      · refine Ev.neg (by omega) (skip ?_)
        unfold startOf
        rw [if_pos c, again_no b]
        rfl
      · have hg := again_at hold hnew hj hp (f.trans e.symm)
        rw [e] at hg
        simp only [rd55 new p hp, rd55 old j hj]
        refine Ev.pos (by omega) (Ev.pos (by omega) (Ev.pos (by omega) ?_))
        by_cases d : ((old[j]).f3).toList = ((new[p]).f3).toList
        · refine Ev.pos d (skip ?_)
          unfold startOf
          rw [if_pos c, hg, decide_eq_true d]
          rfl
        · refine Ev.neg d ?_
          by_cases g : (new[p]).f4 = true
          · refine Ev.pos g (skip ?_)
            unfold startOf
            rw [if_pos c, hg, g]
            simp
          · refine Ev.neg g (Ev.pos (by omega) (put _ ?_))
            unfold startOf
            rw [if_pos c, hg, decide_eq_false d, Bool.eq_false_iff.mpr g]
            rfl
    · refine Ev.neg c (Ev.pos (by omega) (put _ ?_))
      unfold startOf
      rw [if_neg c]
theorem specPlan2_ev (old new : List S55) (hold : UOk old) (hnew : UOk new) (hO : Ev (fun k => spec_StartOrder.f k new) (ordered new, ((ordered new).length : Int) == (new.length : Int))) (run : List ByteArray) (hr : run.length ≤ 2000) (l : List ByteArray) (hl : l.length ≤ 200) :
    Ev (fun k => spec_PlanUnits.l2 k old new run [] l 0) (stopOf new run l ++ (ordered new).flatMap (startOf old new run)) := by
  have n1 := hnew.len
  have n3 := ordered_len new
  have key := downTo l.length (fun i => ∀ acts : List S62, acts.length ≤ i → Ev (fun k => spec_PlanUnits.l2 k old new run acts l (i : Int)) (acts ++ (stopOf new run (l.drop i) ++ (ordered new).flatMap (startOf old new run)))) ?_ ?_ 0 (by omega)
  · simpa using key [] (by simp)
  · intro acts hx
    refine Ev.step ?_
    simp only [spec_PlanUnits.l2]
    rw [List.drop_length, show stopOf new run [] = [] from rfl, List.nil_append]
    exact Ev.neg (by omega) (Ev.bind hO (specPlan3_ev old new hold hnew run hr (ordered new) (by omega) (ordered_mem new) acts (by omega)))
  · intro i hi ih acts hx
    obtain ⟨t, ts, ti, ta⟩ := find_ev new (by omega) (l[i])
    have hh := isAt_has ta
    rw [stopOf_drop new run l i hi]
    refine Ev.step ?_
    simp only [spec_PlanUnits.l2, rdStr l i hi, upN i (by omega)]
    refine Ev.pos (by omega) (Ev.pos (by omega) (Ev.bind (has_ev run l[i] (by omega)) ?_))
    by_cases c : hasW run l[i] = true
    · refine Ev.pos c (Ev.bind ts ?_)
      by_cases d : t < 0
      · refine Ev.pos d (Ev.pos (by omega) ?_)
        rw [if_pos ⟨c, hh.1 d⟩, List.append_assoc, ← List.append_assoc]
        exact ih _ (by simp; omega)
      · refine Ev.neg d ?_
        rw [if_neg (fun e => d (hh.2 e.2)), List.nil_append]
        exact ih acts (by omega)
    · refine Ev.neg c ?_
      rw [if_neg (fun e => c e.1), List.nil_append]
      exact ih acts (by omega)
theorem specPlan1_ev (old new : List S55) (hold : UOk old) (hnew : UOk new) (hO : Ev (fun k => spec_StartOrder.f k new) (ordered new, ((ordered new).length : Int) == (new.length : Int))) (run : List ByteArray) (hr : run.length ≤ 2000) (o : List ByteArray) (ho : o.length ≤ 100) :
    ∀ (i : Nat) (l : List ByteArray), i ≤ o.length → l.length + i ≤ 200 → Ev (fun k => spec_PlanUnits.l1 k old new run [] o l ((i : Int) - 1)) (stopOf new run (l ++ (o.take i).reverse) ++ (ordered new).flatMap (startOf old new run)) := by
  intro i
  induction i with
  | zero =>
    intro l _ hl
    refine Ev.step ?_
    simp only [spec_PlanUnits.l1, List.take_zero, List.reverse_nil, List.append_nil]
    exact Ev.neg (by omega) (specPlan2_ev old new hold hnew hO run hr l (by omega))
  | succ i ih =>
    intro l hi hl
    refine Ev.step ?_
    simp only [spec_PlanUnits.l1, sub1 i, rdStr o i (by omega), dnI i (by omega)]
    refine Ev.pos (by omega) (Ev.pos (by omega) (Ev.pos (by omega) (Ev.pos (by omega) ?_)))
    rw [rev_take o i (by omega), show l ++ o[i] :: (o.take i).reverse = (l ++ [o[i]]) ++ (o.take i).reverse by simp]
    exact ih (l ++ [o[i]]) (by omega) (by rw [List.length_append, List.length_singleton]; omega)
theorem specPlan0_ev (old new : List S55) (hold : UOk old) (hnew : UOk new) (hO : Ev (fun k => spec_StartOrder.f k new) (ordered new, ((ordered new).length : Int) == (new.length : Int))) (run : List ByteArray) (hr : run.length ≤ 2000) (o : List ByteArray) (ho : o.length ≤ 100) :
    ∀ (i : Nat) (l : List ByteArray), i ≤ old.length → l.length + i ≤ 100 → Ev (fun k => spec_PlanUnits.l0 k old new run [] o l ((i : Int) - 1)) (stopOf new run (l ++ restOf o (old.take i) ++ o.reverse) ++ (ordered new).flatMap (startOf old new run)) := by
  have n2 := hold.len
  intro i
  induction i with
  | zero =>
    intro l _ hl
    refine Ev.step ?_
    simp only [spec_PlanUnits.l0, dnI o.length (by omega)]
    have := specPlan1_ev old new hold hnew hO run hr o ho o.length l (Nat.le_refl _) (by omega)
    rw [List.take_length] at this
    rw [show restOf o (old.take 0) = [] by simp [restOf], List.append_nil]
    exact Ev.neg (by omega) this
  | succ i ih =>
    intro l hi hl
    refine Ev.step ?_
    simp only [spec_PlanUnits.l0, sub1 i, rd55 old i (by omega), dnI i (by omega)]
    refine Ev.pos (by omega) (Ev.pos (by omega) (Ev.pos (by omega) (Ev.bind (has_ev o _ (by omega)) ?_)))
    rw [restOf_take o old i (by omega)]
    by_cases c : hasW o (old[i]).f0 = true
    · refine Ev.pos c ?_
      rw [if_pos c, List.nil_append]
      exact ih l (by omega) (by omega)
    · refine Ev.neg c (Ev.pos (by omega) ?_)
      rw [if_neg c, ← List.append_assoc]
      exact ih _ (by omega) (by simp; omega)
theorem implPlan3_ev (old new : List S55) (hold : UOk old) (hnew : UOk new) (run : List ByteArray) (hr : run.length ≤ 2000) (o : List ByteArray) (ho : o.length ≤ 100) (hm : ∀ s ∈ o, s ∈ namesU new) (acts : List S62) (ha : acts.length ≤ 1000) :
    Ev (fun k => impl_PlanUnits.l3 k old new run acts o (o.length : Int) 0) (acts ++ o.flatMap (startOf old new run)) := by
  have n1 := hnew.len
  have n2 := hold.len
  have key := downTo o.length (fun i => ∀ acts : List S62, acts.length ≤ 1000 + i → Ev (fun k => impl_PlanUnits.l3 k old new run acts o (o.length : Int) (i : Int)) (acts ++ (o.drop i).flatMap (startOf old new run))) ?_ ?_ 0 (by omega)
  · exact key acts (by omega)
  · intro acts _
    refine Ev.step ?_
    simp only [impl_PlanUnits.l3, List.drop_length, List.flatMap_nil, List.append_nil]
    exact Ev.neg (by omega) Ev.pure
  · intro i hi ih acts hl
    have hin := hm _ (List.getElem_mem hi)
    obtain ⟨t, ts, ti, ta⟩ := find_ev new (by omega) (o[i])
    rcases ta with ⟨_, a⟩ | ⟨p, hp, rfl, e⟩
    · exact absurd hin a
    obtain ⟨q, qs, qi, qa⟩ := find_ev old (by omega) (o[i])
    have hf : (o.drop i).flatMap (startOf old new run) = startOf old new run o[i] ++ (o.drop (i + 1)).flatMap (startOf old new run) := by rw [List.drop_eq_getElem_cons hi, List.flatMap_cons]
    rw [hf]
    have skip : startOf old new run o[i] = [] → Ev (fun k => impl_PlanUnits.l3 k old new run acts o (o.length : Int) ((i + 1 : Nat) : Int)) (acts ++ (startOf old new run o[i] ++ (o.drop (i + 1)).flatMap (startOf old new run))) := by
      intro e
      rw [e, List.nil_append]
      exact ih acts (by omega)
    have put : ∀ x : S62, startOf old new run o[i] = [x] → Ev (fun k => impl_PlanUnits.l3 k old new run (acts ++ [x]) o (o.length : Int) ((i + 1 : Nat) : Int)) (acts ++ (startOf old new run o[i] ++ (o.drop (i + 1)).flatMap (startOf old new run))) := by
      intro x e
      rw [e, ← List.append_assoc]
      exact ih _ (by simp; omega)
    refine Ev.step ?_
    simp only [impl_PlanUnits.l3, rdStr o i hi, upN i (by omega)]
    refine Ev.pos (by omega) (Ev.pos (by omega) (Ev.pos (by omega) (Ev.bind ti (Ev.pos (by omega) (Ev.pos (by omega) (Ev.bind (inList_ev run o[i] (by omega)) ?_))))))
    by_cases c : hasW run o[i] = true
    · refine Ev.pos c (Ev.bind qi ?_)
      rcases qa with ⟨a, b⟩ | ⟨j, hj, rfl, f⟩
      · refine Ev.neg (by omega) (skip ?_)
        unfold startOf
        rw [if_pos c, again_no b]
        rfl
      · have hg := again_at hold hnew hj hp (f.trans e.symm)
        rw [e] at hg
        simp only [rd55 new p hp, rd55 old j hj]
        refine Ev.pos (by omega) (Ev.pos (by omega) (Ev.pos (by omega) ?_))
        by_cases d : ((old[j]).f3).toList = ((new[p]).f3).toList
        · refine Ev.pos d (skip ?_)
          unfold startOf
          rw [if_pos c, hg, decide_eq_true d]
          rfl
        · refine Ev.neg d ?_
          by_cases g : (new[p]).f4 = true
          · refine Ev.pos g (skip ?_)
            unfold startOf
            rw [if_pos c, hg, g]
            simp
          · refine Ev.neg g (Ev.pos (by omega) (put _ ?_))
            unfold startOf
            rw [if_pos c, hg, decide_eq_false d, Bool.eq_false_iff.mpr g]
            rfl
    · refine Ev.neg c (Ev.pos (by omega) (put _ ?_))
      unfold startOf
      rw [if_neg c]
theorem implPlan2_ev (old new : List S55) (hold : UOk old) (hnew : UOk new) (hO : Ev (fun k => impl_startOrder.f k new) (ordered new)) (run : List ByteArray) (hr : run.length ≤ 2000) (l : List ByteArray) (hl : l.length ≤ 200) :
    Ev (fun k => impl_PlanUnits.l2 k old new run [] l (l.length : Int) 0) (stopOf new run l ++ (ordered new).flatMap (startOf old new run)) := by
  have n1 := hnew.len
  have n3 := ordered_len new
  have key := downTo l.length (fun i => ∀ acts : List S62, acts.length ≤ i → Ev (fun k => impl_PlanUnits.l2 k old new run acts l (l.length : Int) (i : Int)) (acts ++ (stopOf new run (l.drop i) ++ (ordered new).flatMap (startOf old new run)))) ?_ ?_ 0 (by omega)
  · simpa using key [] (by simp)
  · intro acts hx
    refine Ev.step ?_
    simp only [impl_PlanUnits.l2]
    rw [List.drop_length, show stopOf new run [] = [] from rfl, List.nil_append]
    exact Ev.neg (by omega) (Ev.bind hO (implPlan3_ev old new hold hnew run hr (ordered new) (by omega) (ordered_mem new) acts (by omega)))
  · intro i hi ih acts hx
    obtain ⟨t, ts, ti, ta⟩ := find_ev new (by omega) (l[i])
    have hh := isAt_has ta
    rw [stopOf_drop new run l i hi]
    refine Ev.step ?_
    simp only [impl_PlanUnits.l2, rdStr l i hi, upN i (by omega)]
    refine Ev.pos (by omega) (Ev.pos (by omega) (Ev.pos (by omega) (Ev.bind (inList_ev run l[i] (by omega)) ?_)))
    by_cases c : hasW run l[i] = true
    · refine Ev.pos c (Ev.bind ti ?_)
      by_cases d : t < 0
      · refine Ev.pos d (Ev.pos (by omega) ?_)
        rw [if_pos ⟨c, hh.1 d⟩, List.append_assoc, ← List.append_assoc]
        exact ih _ (by simp; omega)
      · refine Ev.neg d ?_
        rw [if_neg (fun e => d (hh.2 e.2)), List.nil_append]
        exact ih acts (by omega)
    · refine Ev.neg c ?_
      rw [if_neg (fun e => c e.1), List.nil_append]
      exact ih acts (by omega)
theorem implPlan1_ev (old new : List S55) (hold : UOk old) (hnew : UOk new) (hO : Ev (fun k => impl_startOrder.f k new) (ordered new)) (run : List ByteArray) (hr : run.length ≤ 2000) (o : List ByteArray) (ho : o.length ≤ 100) :
    ∀ (i : Nat) (l : List ByteArray), i ≤ o.length → l.length + i ≤ 200 → Ev (fun k => impl_PlanUnits.l1 k old new run [] o l ((i : Int) - 1)) (stopOf new run (l ++ (o.take i).reverse) ++ (ordered new).flatMap (startOf old new run)) := by
  intro i
  induction i with
  | zero =>
    intro l _ hl
    refine Ev.step ?_
    simp only [impl_PlanUnits.l1, List.take_zero, List.reverse_nil, List.append_nil]
    exact Ev.neg (by omega) (implPlan2_ev old new hold hnew hO run hr l (by omega))
  | succ i ih =>
    intro l hi hl
    refine Ev.step ?_
    simp only [impl_PlanUnits.l1, sub1 i, rdStr o i (by omega), dnI i (by omega)]
    refine Ev.pos (by omega) (Ev.pos (by omega) (Ev.pos (by omega) (Ev.pos (by omega) ?_)))
    rw [rev_take o i (by omega), show l ++ o[i] :: (o.take i).reverse = (l ++ [o[i]]) ++ (o.take i).reverse by simp]
    exact ih (l ++ [o[i]]) (by omega) (by rw [List.length_append, List.length_singleton]; omega)
theorem implPlan0_ev (old new : List S55) (hold : UOk old) (hnew : UOk new) (hO : Ev (fun k => impl_startOrder.f k new) (ordered new)) (run : List ByteArray) (hr : run.length ≤ 2000) (o : List ByteArray) (ho : o.length ≤ 100) :
    ∀ (i : Nat) (l : List ByteArray), i ≤ old.length → l.length + i ≤ 100 → Ev (fun k => impl_PlanUnits.l0 k old new run [] o l ((i : Int) - 1)) (stopOf new run (l ++ restOf o (old.take i) ++ o.reverse) ++ (ordered new).flatMap (startOf old new run)) := by
  have n2 := hold.len
  intro i
  induction i with
  | zero =>
    intro l _ hl
    refine Ev.step ?_
    simp only [impl_PlanUnits.l0, dnI o.length (by omega)]
    have := implPlan1_ev old new hold hnew hO run hr o ho o.length l (Nat.le_refl _) (by omega)
    rw [List.take_length] at this
    rw [show restOf o (old.take 0) = [] by simp [restOf], List.append_nil]
    exact Ev.neg (by omega) this
  | succ i ih =>
    intro l hi hl
    refine Ev.step ?_
    simp only [impl_PlanUnits.l0, sub1 i, rd55 old i (by omega), dnI i (by omega)]
    refine Ev.pos (by omega) (Ev.pos (by omega) (Ev.pos (by omega) (Ev.bind (inList_ev o _ (by omega)) ?_)))
    rw [restOf_take o old i (by omega)]
    by_cases c : hasW o (old[i]).f0 = true
    · refine Ev.pos c ?_
      rw [if_pos c, List.nil_append]
      exact ih l (by omega) (by omega)
    · refine Ev.neg c (Ev.pos (by omega) ?_)
      rw [if_neg c, ← List.append_assoc]
      exact ih _ (by omega) (by simp; omega)
theorem specPlan_ev (old new : List S55) (run : List ByteArray) (b c : Bool) (hb : Ev (fun k => spec_UnitsOk.f k old) b) (hc : Ev (fun k => spec_UnitsOk.f k new) c) (ho : b = true → UOk old) (hn : c = true → UOk new) :
    Ev (fun k => spec_PlanUnits.f k old new run) (if b = true ∧ c = true ∧ run.length ≤ 2000 then planU old new run else []) := by
  unfold spec_PlanUnits.f
  refine Ev.cons rfl (Ev.bind hb ?_)
  by_cases d : b = true
  · refine Ev.pos d (Ev.bind hc ?_)
    by_cases e : c = true
    · refine Ev.pos e (Ev.step ?_)
      simp only [spec_PlanUnits.j0]
      by_cases f : run.length ≤ 2000
      · rw [if_pos ⟨d, e, f⟩]
        have n2 := (ho d).len
        have n3 := ordered_len old
        have h1 := specOrder_ev old b hb ho
        have h2 := specOrder_ev new c hc hn
        rw [if_pos d] at h1
        rw [if_pos e] at h2
        have key := specPlan0_ev old new (ho d) (hn e) h2 run f (ordered old) (by omega) old.length [] (Nat.le_refl _) (by simp; omega)
        rw [List.take_length, List.nil_append] at key
        refine Ev.neg (by simp; omega) (Ev.bind h1 ?_)
        rw [dnI old.length (by omega)]
        exact key
      · rw [if_neg (fun g => f g.2.2)]
        exact Ev.pos (by simp; omega) Ev.pure
    · rw [if_neg (fun g => e g.2.1)]
      refine Ev.neg e (Ev.step ?_)
      simp only [spec_PlanUnits.j0]
      exact Ev.pos trivial Ev.pure
  · rw [if_neg (fun g => d g.1)]
    refine Ev.neg d (Ev.step ?_)
    simp only [spec_PlanUnits.j0]
    exact Ev.pos trivial Ev.pure
def ZOk (us : List S55) : Prop := ∀ u ∈ us, u.f0.size ≤ 9223372036854775807 ∧ (∀ s ∈ u.f1, s.size ≤ 9223372036854775807) ∧ ∀ s ∈ u.f2, s.size ≤ 9223372036854775807
theorem implPlan_ev (old new : List S55) (run : List ByteArray) (b c : Bool) (hb : Ev (fun k => impl_UnitsOk.f k old) b) (hc : Ev (fun k => impl_UnitsOk.f k new) c) (zo : ZOk old) (zn : ZOk new) :
    Ev (fun k => impl_PlanUnits.f k old new run) (if b = true ∧ c = true ∧ run.length ≤ 2000 then planU old new run else []) := by
  unfold impl_PlanUnits.f
  refine Ev.bind hb ?_
  by_cases d : b = true
  · refine Ev.pos d (Ev.bind hc ?_)
    by_cases e : c = true
    · refine Ev.pos e (Ev.step ?_)
      simp only [impl_PlanUnits.j0]
      by_cases f : run.length ≤ 2000
      · rw [if_pos ⟨d, e, f⟩]
        have ho := UOk_of (d ▸ hb)
        have hn := UOk_of (e ▸ hc)
        have n2 := ho.len
        have n3 := ordered_len old
        have h1 := implOrder_ev old ho zo
        have h2 := implOrder_ev new hn zn
        have key := implPlan0_ev old new ho hn h2 run f (ordered old) (by omega) old.length [] (Nat.le_refl _) (by simp; omega)
        rw [List.take_length, List.nil_append] at key
        refine Ev.neg (by simp; omega) (Ev.bind h1 ?_)
        rw [dnI old.length (by omega)]
        exact key
      · rw [if_neg (fun g => f g.2.2)]
        exact Ev.pos (by simp; omega) Ev.pure
    · rw [if_neg (fun g => e g.2.1)]
      refine Ev.neg e (Ev.step ?_)
      simp only [impl_PlanUnits.j0]
      exact Ev.pos trivial Ev.pure
  · rw [if_neg (fun g => d g.1)]
    refine Ev.neg d (Ev.step ?_)
    simp only [impl_PlanUnits.j0]
    exact Ev.pos trivial Ev.pure
theorem planU_len (old new : List S55) (run : List ByteArray) (ho : UOk old) (hn : UOk new) : (planU old new run).length ≤ 1000 := by
  have n1 := ho.len
  have n2 := hn.len
  have n3 := ordered_len old
  have n4 := ordered_len new
  have n5 := restOf_len (ordered old) old
  have a : (stopOf new run (stopsU old)).length ≤ 200 := by
    unfold stopOf stopsU
    rw [List.length_map]
    refine Nat.le_trans (List.length_filter_le _ _) ?_
    rw [List.length_append, List.length_reverse]
    omega
  have b : ((ordered new).flatMap (startOf old new run)).length ≤ 100 := by
    have : ∀ l : List ByteArray, (l.flatMap (startOf old new run)).length ≤ l.length := by
      intro l
      induction l with
      | nil => simp
      | cons s l ih =>
        rw [List.flatMap_cons, List.length_append, List.length_cons]
        have : (startOf old new run s).length ≤ 1 := by
          unfold startOf
          split
          · split <;> simp
          · simp
        omega
    exact Nat.le_trans (this _) (by omega)
  unfold planU
  rw [List.length_append]
  omega

theorem FnExactPlanUnits : laws_FnExactPlanUnits.Pure := by
  intro l m run hl hm o1
  have mx : maxLen = 9223372036854775807 := by decide
  have hr : run.length ≤ 9223372036854775807 ∧ ∀ s ∈ run, s.size ≤ 9223372036854775807 := by
    rw [← mx]
    exact o1
  have fit : ∀ {l : List S65}, (l.length ≤ maxLen ∧ ∀ y0 ∈ l, (y0.f0.size ≤ maxLen ∧ (y0.f1.length ≤ maxLen ∧ ∀ y1 ∈ y0.f1, y1.size ≤ maxLen) ∧ (y0.f2.length ≤ maxLen ∧ ∀ y1 ∈ y0.f2, y1.size ≤ maxLen) ∧ y0.f3.size ≤ maxLen ∧ True)) → ZOk (l.map cUnit) := by
    intro l hl u hu
    obtain ⟨q, hq, rfl⟩ := List.mem_map.1 hu
    obtain ⟨h1, ⟨h2, h3⟩, ⟨h4, h5⟩, _⟩ := hl.2 q hq
    exact ⟨by show q.f0.size ≤ _; omega, fun s hs => by have := h3 s hs; omega, fun s hs => by have := h5 s hs; omega⟩
  obtain ⟨t, ht, hb, ht9⟩ := szUnitS_ev l 1048576 (by omega) (by omega) (by have := hl.1; omega) (fun u hu => by
    obtain ⟨h1, ⟨h2, h3⟩, ⟨h4, h5⟩, h6, _⟩ := hl.2 u hu
    exact ⟨by omega, by omega, ⟨by omega, fun g hg => by have := h3 g hg; omega⟩, by omega, fun g hg => by have := h5 g hg; omega⟩)
  refine Ev.at ?_
  unfold laws_FnExactPlanUnits.f
  refine Ev.bind ht ?_
  by_cases h0 : t < 0
  · exact Ev.pos h0 Ev.pure
  refine Ev.neg h0 ?_
  obtain ⟨hb1, hs⟩ := hb (by omega)
  obtain ⟨u, hu, hbu, hu9⟩ := szUnitS_ev m t (by omega) ht9 (by have := hm.1; omega) (fun u hu => by
    obtain ⟨h1, ⟨h2, h3⟩, ⟨h4, h5⟩, h6, _⟩ := hm.2 u hu
    exact ⟨by omega, by omega, ⟨by omega, fun g hg => by have := h3 g hg; omega⟩, by omega, fun g hg => by have := h5 g hg; omega⟩)
  refine Ev.bind hu ?_
  by_cases h2 : u < 0
  · exact Ev.pos h2 Ev.pure
  refine Ev.neg h2 ?_
  obtain ⟨hb2, hs2⟩ := hbu (by omega)
  obtain ⟨v, hv, hv1, hv2⟩ := szStringS_ev run hr.1 u (by omega) hu9 hr.2
  refine Ev.bind hv ?_
  by_cases h3 : v < 0
  · exact Ev.pos h3 Ev.pure
  refine Ev.neg h3 ?_
  have p := (hv1 (by omega)).2
  have hc := toUnitS_ev l (by omega) hs
  have hd := toUnitS_ev m (by omega) hs2
  have oks : ∀ {l : List S65}, (∀ u ∈ l, u.f1.length ≤ 1048576 ∧ u.f2.length ≤ 1048576) → ∀ u ∈ l.map cUnit, u.f1.length ≤ 1048576 ∧ u.f2.length ≤ 1048576 := by
    intro l hs p hp
    obtain ⟨q, hq, rfl⟩ := List.mem_map.1 hp
    simpa [cUnit] using hs q hq
  have ok := oks hs
  have ok2 := oks hs2
  have hll : (l.map cUnit).length ≤ 1048576 := by simp; omega
  have hml : (m.map cUnit).length ≤ 1048576 := by simp; omega
  have z1 := fit hl
  have z2 := fit hm
  generalize l.map cUnit = old at *
  generalize m.map cUnit = new at *
  obtain ⟨b, b1, b2⟩ := UnitsOk_ev old hll ok
  obtain ⟨c, c1, c2⟩ := UnitsOk_ev new hml ok2
  have hS := specPlan_ev old new run b c b1 c1 (fun e => UOk_of (e ▸ b2)) (fun e => UOk_of (e ▸ c2))
  have hI := implPlan_ev old new run b c b2 c2 z1 z2
  have hg : (if b = true ∧ c = true ∧ run.length ≤ 2000 then planU old new run else []).length ≤ 1000 := by
    split
    · rename_i e
      exact planU_len old new run (UOk_of (e.1 ▸ b2)) (UOk_of (e.2.1 ▸ c2))
    · simp
  generalize (if b = true ∧ c = true ∧ run.length ≤ 2000 then planU old new run else []) = g at hS hI hg
  have hA := toStringS_ev run p
  have hE := eqActS_ev g (by omega)
  obtain ⟨k1, hk1, hk2, hk3⟩ := markUnitS_le old hll ok 1 (by omega) (by omega)
  obtain ⟨k2, hj1, hj2, hj3⟩ := markUnitS_le new hml ok2 k1 hk2 (by omega)
  obtain ⟨y1, _, _, hy1⟩ := markStringS_ev run (by omega) k2 hj2 (by omega)
  obtain ⟨yg, hyl, hym, hyg⟩ := markActS_ev g (by omega) 1 (by omega) (by omega)
  have hH := heldActS_ev yg (by omega) 1 (by omega) (by omega) hym
  rw [hyl] at hH
  exact Ev.bind hc (Ev.bind hd (Ev.bind hA (Ev.bind hS (Ev.bind hc (Ev.bind hd (Ev.bind hA (Ev.bind hI (Ev.bind hE (Ev.pos rfl (Ev.bind hc (Ev.bind (eqUnitS_ev old hll ok) (Ev.pos rfl (Ev.bind hd (Ev.bind (eqUnitS_ev new hml ok2) (Ev.pos rfl (Ev.bind hA (Ev.bind (eqStringS_ev run p) (Ev.pos rfl (Ev.bind hk1 (Ev.bind hj1 (Ev.bind hy1 (Ev.neg (by omega) (Ev.bind hE (Ev.pos rfl (Ev.bind hyg (Ev.bind hH (Ev.neg (by omega) (Ev.pos rfl (Ev.bind hc (Ev.bind hd (Ev.bind hA (Ev.bind hI (Ev.bind hE (Ev.pos rfl (Ev.bind hH (Ev.pos rfl Ev.pure))))))))))))))))))))))))))))))))))))

end Go.Proofs.Ytnahkojlamficaa.Pure
