/- The pure statement of FnExactUnitsOk: both sides see the same faults, in another order. -/
import Derived.Test.YtnahkojlamficaaPFnExactUnitsOkx0
import Derived.Test.YtnahkojlamficaaPFnExactUnitsOkx1
import Derived.Test.YtnahkojlamficaaPFnExactUnitsOkx2
import Derived.Test.YtnahkojlamficaaPFnExactUnitsOkx3
import Derived.Test.YtnahkojlamficaaPFnExactUnitsOkx4
import Derived.Test.YtnahkojlamficaaPFnExactUnitsOkx5
import Derived.Test.YtnahkojlamficaaPFnExactUnitsOkx6
import Derived.Test.YtnahkojlamficaaPFnExactUnitsOkx7
import Derived.Laws.BitsLemmas
import Derived.Laws.Bits64b
import Derived.Lib.Bytealg
namespace Go.Proofs.Ytnahkojlamficaa.Pure
open Go.RowKit Go.Proofs.YtnahkojlamficaaW.PrintWords Go.Proofs.YtnahkojlamficaaW.PrintLast Go.Proofs.YtnahkojlamficaaW.PrintMore Go.Proofs.Ytnahkojlamficaa.PFnExactUnitsOk

theorem u64w (n : Int) (h0 : 0 ≤ n) (h1 : n < 18446744073709551616) : IntKind.u64.wrap n = n := by
  simp [IntKind.wrap, IntKind.signed, IntKind.bits]; omega
theorem i64w (n : Int) (h0 : -9223372036854775808 ≤ n) (h1 : n < 9223372036854775808) : IntKind.i64.wrap n = n := by
  rw [IntKind.wrap_i64]; omega
theorem w64 (n : Int) (h0 : -9223372036854775808 ≤ n) (h1 : n < 9223372036854775808) : wrap64 n = n := by unfold wrap64; omega
theorem up1 (i : Int) (h0 : 0 ≤ i) (h : i < 9223372036854775807) : wrap64 (i + 1) = i + 1 := by unfold wrap64; omega
theorem u64_lo (n : Int) : 0 ≤ IntKind.u64.wrap n := by simp [IntKind.wrap, IntKind.signed, IntKind.bits]; omega
theorem u64_hi (n : Int) : IntKind.u64.wrap n < 18446744073709551616 := by simp [IntKind.wrap, IntKind.signed, IntKind.bits]; omega
theorem u64_wf (x : Int) (h : (Lit.int .u64 x).wf = true) : 0 ≤ x ∧ x < 18446744073709551616 := by
  simp [Lit.wf, IntKind.min, IntKind.max, IntKind.signed, IntKind.bits] at h; omega
theorem and31 (x : Int) (h0 : 0 ≤ x) (h1 : x < 18446744073709551616) : Go.bits .and .u64 x 31 = x % 32 := by
  have := bits_mask .u64 64 (by decide) (fun n a b => u64w n a (by simpa using b)) 5 (by decide) x h0 (by simpa using h1)
  simpa using this
theorem or5 (a c : Int) (h0 : 0 ≤ a) (h1 : a * 32 < 18446744073709551616) (hc0 : 0 ≤ c) (hc : c < 32) : Go.bits .or .u64 (a * 32) c = a * 32 + c := by
  have := bits_join .u64 64 (by decide) (fun n x y => u64w n x (by simpa using y)) 5 (a * 32) c (by omega) (by omega) (by simpa using h1) hc0 (by simpa using hc) (by simp; omega)
  exact this
theorem bt_list (l : List UInt8) (i : Int) : bt ⟨l.toArray⟩ i = ((l.getD i.toNat 0).toNat : Int) := by
  unfold bt
  split
  · rename_i h
    have h' : i.toNat < l.length := by simpa [ByteArray.size] using h
    rw [List.getD_eq_getElem?_getD, List.getElem?_eq_getElem h']
    rfl
  · rename_i h
    have h' : l.length ≤ i.toNat := by simpa [ByteArray.size] using h
    rw [List.getD_eq_getElem?_getD, List.getElem?_eq_none h']; rfl
/-- The alphabet of chapter 1. -/
def alpha : ByteArray := ⟨#[48, 49, 50, 51, 52, 53, 54, 55, 56, 57, 97, 98, 99, 100, 102, 103, 104, 105, 106, 107, 108, 109, 110, 112, 113, 114, 115, 118, 119, 120, 121, 122]⟩
/-- The n-th digit from the right, as its byte. -/
def dg (x : Int) (n : Nat) : Int := bt alpha (x / 2 ^ (5 * n) % 32)
/-- The last n digits. -/
def ds (x : Int) : Nat → List Int
  | 0 => []
  | n + 1 => dg x n :: ds x n
theorem ds_length (x : Int) : ∀ n, (ds x n).length = n
  | 0 => rfl
  | n + 1 => by simp [ds, ds_length x n]
/-- The thirteen bytes. -/
def word (x : Int) : ByteArray := strOfNums (ds x 13)
theorem div_lo (x : Int) (h0 : 0 ≤ x) (n : Nat) : 0 ≤ x / 2 ^ n := Int.ediv_nonneg h0 (by have := Nat.two_pow_pos n; exact_mod_cast Nat.zero_le _)
theorem div_hi (x : Int) (h0 : 0 ≤ x) (n : Nat) : x / 2 ^ n ≤ x := Int.ediv_le_self _ h0
theorem shr5 (x : Int) (n : Nat) (hn : n ≤ 12) : shr .u64 x (5 * n) = x / 2 ^ (5 * n) := by
  unfold shr
  have e : (5 * (n : Int)).toNat = 5 * n := by omega
  rw [e, Nat.min_eq_left (by simp [IntKind.bits]; omega)]
/-- What a byte is worth as a digit; -1: it is none. -/
def dv (c : Int) : Int := Lib.indexByte alpha.data.toList c.toNat.toUInt8
theorem dv_all : ∀ c : Fin 256, -1 ≤ dv (c.val : Int) ∧ dv (c.val : Int) < 32 := by decide +kernel
theorem dv_bounds (c : Int) (h0 : 0 ≤ c) (h1 : c ≤ 255) : -1 ≤ dv c ∧ dv c < 32 := by
  have := dv_all ⟨c.toNat, by omega⟩
  simpa [Int.toNat_of_nonneg h0] using this
/-- The number that thirteen digits tell, from the i-th on. -/
def rwGo (s : ByteArray) : Nat → Int → Nat → Int × Bool
  | 0, x, _ => (x, true)
  | d + 1, x, i => if dv (bt s i) < 0 then (0, false) else if i = 0 ∧ dv (bt s i) > 15 then (0, false) else rwGo s d (x * 32 + dv (bt s i)) (i + 1)
def rw32 (s : ByteArray) : Int × Bool := if s.size = 13 then rwGo s 13 0 0 else (0, false)
/-- The bound that the digits so far keep. -/
def lim (d : Nat) : Int := if d = 13 then 1 else 2 ^ (64 - 5 * d)
theorem lim_all : ∀ d : Fin 13, lim d.val ≤ 18446744073709551616 ∧ 0 < lim d.val ∧ (d.val < 12 → lim (d.val + 1) * 32 = lim d.val) ∧ (d.val = 12 → lim d.val = 16) ∧ lim (d.val + 1) * 32 ≤ 18446744073709551616 := by decide +kernel
theorem word_size (x : Int) : (word x).size = 13 := by unfold word; rw [strOfNums_size, ds_length]

-- Ev
/-- With fuel enough the run answers r. -/
def Ev {α : Type} (f : Nat → Option α) (r : α) : Prop := ∃ K, ∀ k, K ≤ k → f k = some r
theorem Ev.pure {α : Type} {r : α} : Ev (fun _ => some r) r := ⟨0, fun _ _ => rfl⟩
theorem Ev.of {α : Type} {f : Nat → Option α} {r : α} (N : Nat) (h : ∀ k, N ≤ k → f k = some r) : Ev f r := ⟨N, h⟩
theorem Ev.step {α : Type} {f : Nat → Option α} {r : α} (h : Ev (fun k => f (k + 1)) r) : Ev f r := by
  obtain ⟨K, h⟩ := h
  refine ⟨K + 1, fun k hk => ?_⟩
  obtain ⟨m, rfl⟩ : ∃ m, k = m + 1 := ⟨k - 1, by omega⟩
  exact h m (by omega)
theorem Ev.bind {α β : Type} {f : Nat → Option α} {g : Nat → α → Option β} {a : α} {r : β} (h : Ev f a) (h2 : Ev (fun k => g k a) r) : Ev (fun k => (f k).bind (g k)) r := by
  obtain ⟨K, h⟩ := h
  obtain ⟨K2, h2⟩ := h2
  refine ⟨K + K2, fun k hk => ?_⟩
  show (f k).bind (g k) = some r
  rw [h k (by omega)]
  exact h2 k (by omega)
theorem Ev.cons {α β : Type} {x : Option α} {g : Nat → α → Option β} {a : α} {r : β} (h : x = some a) (h2 : Ev (fun k => g k a) r) : Ev (fun k => x.bind (g k)) r := by
  subst h
  exact h2
theorem Ev.pos {α : Type} {c : Prop} [Decidable c] {f g : Nat → Option α} {r : α} (hc : c) (h : Ev f r) : Ev (fun k => if c then f k else g k) r := by
  simpa only [if_pos hc] using h
theorem Ev.neg {α : Type} {c : Prop} [Decidable c] {f g : Nat → Option α} {r : α} (hc : ¬ c) (h : Ev g r) : Ev (fun k => if c then f k else g k) r := by
  simpa only [if_neg hc] using h
theorem Ev.at {α : Type} {f : Nat → Option α} {r : α} (h : Ev f r) : ∃ k, f k = some r := by
  obtain ⟨K, h⟩ := h
  exact ⟨K, h K (Nat.le_refl _)⟩
theorem Ev.uniq {α : Type} {f : Nat → Option α} {r s : α} (h : Ev f r) (h2 : Ev f s) : r = s := by
  obtain ⟨K, h⟩ := h
  obtain ⟨K2, h2⟩ := h2
  have a := h (K + K2) (by omega)
  have b := h2 (K + K2) (by omega)
  rw [a] at b
  exact Option.some.inj b
/-- From the end down. -/
theorem downTo (n : Nat) (P : Nat → Prop) (base : P n) (step : ∀ i, i < n → P (i + 1) → P i) : ∀ i, i ≤ n → P i := by
  intro i hi
  obtain ⟨d, rfl⟩ : ∃ d, i = n - d := ⟨n - i, by omega⟩
  clear hi
  induction d with
  | zero => exact base
  | succ d ih =>
    by_cases h : d < n
    · refine step _ (by omega) ?_
      have e : n - (d + 1) + 1 = n - d := by omega
      rw [e]; exact ih
    · have e : n - (d + 1) = n - d := by omega
      rw [e]; exact ih
theorem upN (i : Nat) (h : i < 1000000000000000) : wrap64 ((i : Int) + 1) = ((i + 1 : Nat) : Int) := by unfold wrap64; omega
theorem dnN (i : Nat) (h : i < 1000000000000000) (h0 : 0 < i) : wrap64 ((i : Int) - 1) = ((i - 1 : Nat) : Int) := by unfold wrap64; omega
/-- A loop that sets place by place leaves the row's picture. -/
theorem setLoop {A B : Type} (L : Nat → List B → Int → Option (List B)) (x : List A) (c : A → B)
    (step : ∀ (i : Nat) (y : List B) (r : List B) (h : i < x.length), y.length = x.length → Ev (fun k => L k (y.set i (c x[i])) ((i + 1 : Nat) : Int)) r → Ev (fun k => L k y (i : Int)) r)
    (stop : ∀ y : List B, y.length = x.length → Ev (fun k => L k y ((x.length : Nat) : Int)) y) :
    ∀ y : List B, y.length = x.length → Ev (fun k => L k y 0) (x.map c) := by
  have main := downTo x.length (fun i => ∀ y : List B, y.length = x.length → y.take i = (x.map c).take i → Ev (fun k => L k y (i : Int)) (x.map c)) ?_ ?_
  · intro y hy
    exact main 0 (by omega) y hy (by simp)
  · intro y hy he
    rw [List.take_of_length_le (by omega), List.take_of_length_le (by simp)] at he
    have := stop y hy
    rw [he] at this
    rw [he] at hy
    exact he ▸ stop y (by rw [he]; exact hy)
  · intro i hi ih y hy he
    refine step i y _ hi hy (ih _ (by simp [hy]) ?_)
    rw [List.take_add_one, List.take_add_one, List.take_set_of_le (by omega), he, List.getElem?_set_self (by omega)]
    simp [List.getElem?_eq_getElem hi]
theorem countLoop {α : Type} (L : Nat → Int → Option α) (n : Nat) (r : α) (step : ∀ i : Nat, i < n → Ev (fun k => L k ((i + 1 : Nat) : Int)) r → Ev (fun k => L k (i : Int)) r) (stop : Ev (fun k => L k ((n : Nat) : Int)) r) : Ev (fun k => L k 0) r :=
  downTo n (fun i => Ev (fun k => L k (i : Int)) r) stop (fun i hi h => step i hi h) 0 (by omega)

-- NameOk
def nmByte (c : Int) : Bool := (decide (97 ≤ c) && decide (c ≤ 122)) || (decide (65 ≤ c) && decide (c ≤ 90)) || (decide (48 ≤ c) && decide (c ≤ 57)) || c == 45 || c == 95 || c == 46 || c == 43
/-- Are n bytes from the i-th on those of a name? -/
def nmGo (s : ByteArray) : Nat → Nat → Bool
  | 0, _ => true
  | d + 1, i => nmByte (bt s i) && nmGo s d (i + 1)
/-- A name. -/
def nmOk (s : ByteArray) : Bool := decide (1 ≤ s.size) && decide (s.size ≤ 60) && !(bt s 0 == 46) && nmGo s s.size 0
theorem l1Letter_f (c : Int) : spec_l1Letter.f c = some ((decide (97 ≤ c) && decide (c ≤ 122)) || (decide (65 ≤ c) && decide (c ≤ 90))) := by
  unfold spec_l1Letter.f
  by_cases h1 : 97 ≤ c <;> by_cases h2 : c ≤ 122 <;> by_cases h3 : 65 ≤ c <;> by_cases h4 : c ≤ 90 <;> simp [h1, h2, h3, h4] <;> omega
theorem l1Digit_f (c : Int) : spec_l1Digit.f c = some (decide (48 ≤ c) && decide (c ≤ 57)) := by
  unfold spec_l1Digit.f
  by_cases h1 : 48 ≤ c <;> by_cases h2 : c ≤ 57 <;> simp [h1, h2]
theorem letter_f (c : Int) : impl_letter.f c = some ((decide (97 ≤ c) && decide (c ≤ 122)) || (decide (65 ≤ c) && decide (c ≤ 90))) := by
  unfold impl_letter.f
  by_cases h1 : 97 ≤ c <;> by_cases h2 : c ≤ 122 <;> by_cases h3 : 65 ≤ c <;> by_cases h4 : c ≤ 90 <;> simp [h1, h2, h3, h4] <;> omega
theorem digit_f (c : Int) : impl_digit.f c = some (decide (48 ≤ c) && decide (c ≤ 57)) := by
  unfold impl_digit.f
  by_cases h1 : 48 ≤ c <;> by_cases h2 : c ≤ 57 <;> simp [h1, h2]
theorem spec_NameOk_loop (s : ByteArray) (hs : s.size ≤ 60) : ∀ (d i k : Nat), i + d = s.size → d < k → spec_NameOk.l0 k s (i : Int) = some (nmGo s d i) := by
  intro d
  induction d with
  | zero =>
    intro i k hi hk
    obtain ⟨k, rfl⟩ : ∃ m, k = m + 1 := ⟨k - 1, by omega⟩
    simp only [spec_NameOk.l0]; rw [if_neg (by omega)]; rfl
  | succ d ih =>
    intro i k hi hk
    obtain ⟨k, rfl⟩ : ∃ m, k = m + 1 := ⟨k - 1, by omega⟩
    have e3 : wrap64 ((i : Int) + 1) = ((i + 1 : Nat) : Int) := by rw [up1 _ (by omega) (by omega)]; omega
    simp only [spec_NameOk.l0, nmGo, nmByte]
    rw [if_pos (by omega), if_pos (by omega), l1Letter_f, l1Digit_f, e3, ih (i + 1) k (by omega) (by omega)]
    simp only [Option.bind_some]
    generalize bt s (i : Int) = c
    generalize nmGo s d (i + 1) = g
    generalize ((decide (97 ≤ c) && decide (c ≤ 122)) || (decide (65 ≤ c) && decide (c ≤ 90))) = p
    generalize (decide (48 ≤ c) && decide (c ≤ 57)) = q
    cases p <;> cases q <;> simp
    by_cases h1 : c = 45
    · simp [h1]
    · by_cases h2 : c = 95
      · simp [h2]
      · by_cases h3 : c = 46
        · simp [h3]
        · by_cases h4 : c = 43
          · simp [h4]
          · simp [h1, h2, h3, h4]
theorem spec_NameOk_f (s : ByteArray) (k : Nat) (hk : 63 ≤ k) : spec_NameOk.f k s = some (nmOk s) := by
  obtain ⟨k, rfl⟩ : ∃ m, k = m + 1 := ⟨k - 1, by omega⟩
  unfold spec_NameOk.f nmOk
  simp only [spec_NameOk.j0]
  by_cases h1 : (s.size : Int) < 1
  · rw [if_pos h1]
    have : ¬ 1 ≤ s.size := by omega
    simp [this]
  · rw [if_neg h1]
    have e1 : 1 ≤ s.size := by omega
    by_cases h2 : (s.size : Int) > 60
    · rw [if_pos h2]
      have : ¬ s.size ≤ 60 := by omega
      simp [this]
    · rw [if_neg h2, if_pos (by omega)]
      have e2 : s.size ≤ 60 := by omega
      have h := spec_NameOk_loop s e2 s.size 0 k (by omega) (by omega)
      rw [show ((0 : Nat) : Int) = 0 from rfl] at h
      rw [h]
      by_cases h3 : bt s 0 = 46
      · simp [h3]
      · simp [h3, e1, e2]
theorem w32_byte (s : ByteArray) (i : Int) : wrap32 (bt s i) = bt s i := by
  have := bt_range s i
  unfold wrap32; omega
theorem impl_NameOk_loop (s : ByteArray) (hs : s.size ≤ 60) : ∀ (d i k : Nat), i + d = s.size → d < k → impl_NameOk.l0 k s (s.size : Int) (i : Int) = some (nmGo s d i) := by
  intro d
  induction d with
  | zero =>
    intro i k hi hk
    obtain ⟨k, rfl⟩ : ∃ m, k = m + 1 := ⟨k - 1, by omega⟩
    simp only [impl_NameOk.l0]; rw [if_neg (by omega)]; rfl
  | succ d ih =>
    intro i k hi hk
    obtain ⟨k, rfl⟩ : ∃ m, k = m + 1 := ⟨k - 1, by omega⟩
    have e3 : wrap64 ((i : Int) + 1) = ((i + 1 : Nat) : Int) := by rw [up1 _ (by omega) (by omega)]; omega
    have hb := bt_range s (i : Int)
    have e4 : strings_ContainsRune.f (⟨#[45, 95, 46, 43]⟩ : ByteArray) (bt s (i : Int)) = some (bt s (i : Int) == 45 || bt s (i : Int) == 95 || bt s (i : Int) == 46 || bt s (i : Int) == 43) := by
      unfold strings_ContainsRune.f
      rw [if_pos (by rw [Lib.toList_data]), if_pos (by omega)]
    simp only [impl_NameOk.l0, nmGo, nmByte]
    rw [if_pos (by omega), if_pos (by omega), if_pos (by omega), letter_f, digit_f, w32_byte, e4, e3, ih (i + 1) k (by omega) (by omega)]
    simp only [Option.bind_some]
    generalize bt s (i : Int) = c
    generalize nmGo s d (i + 1) = g
    generalize ((decide (97 ≤ c) && decide (c ≤ 122)) || (decide (65 ≤ c) && decide (c ≤ 90))) = p
    generalize (decide (48 ≤ c) && decide (c ≤ 57)) = q
    generalize (c == 45) = r1
    generalize (c == 95) = r2
    generalize (c == 46) = r3
    generalize (c == 43) = r4
    cases p <;> cases q <;> cases r1 <;> cases r2 <;> cases r3 <;> cases r4 <;> simp
theorem impl_NameOk_f (s : ByteArray) (k : Nat) (hk : 63 ≤ k) : impl_NameOk.f k s = some (nmOk s) := by
  obtain ⟨k, rfl⟩ : ∃ m, k = m + 1 := ⟨k - 1, by omega⟩
  unfold impl_NameOk.f nmOk
  simp only [impl_NameOk.j0]
  by_cases h1 : (s.size : Int) < 1
  · rw [if_pos h1]
    have : ¬ 1 ≤ s.size := by omega
    simp [this]
  · rw [if_neg h1]
    have e1 : 1 ≤ s.size := by omega
    by_cases h2 : (s.size : Int) > 60
    · rw [if_pos h2]
      have : ¬ s.size ≤ 60 := by omega
      simp [this]
    · rw [if_neg h2, if_pos (by omega)]
      have e2 : s.size ≤ 60 := by omega
      have h := impl_NameOk_loop s e2 s.size 0 k (by omega) (by omega)
      rw [show ((0 : Nat) : Int) = 0 from rfl] at h
      rw [h]
      by_cases h3 : bt s 0 = 46
      · simp [h3]
      · simp [h3, e1, e2]

-- Strs
theorem rdStr (l : List ByteArray) (i : Nat) (h : i < l.length) : rdOf ByteArray.empty l (i : Int) = l[i] := by unfold rdOf; simp [List.getD_eq_getElem?_getD, List.getElem?_eq_getElem h]
theorem szStringS_ev (x : List ByteArray) (hx : x.length ≤ 9223372036854775807) (m : Int) (h0 : 0 ≤ m) (h1 : m ≤ 1048576) (ok : ∀ g ∈ x, g.size ≤ 9223372036854775807) : ∃ t, Ev (fun k => laws_szStringS.f k x m) t ∧ (0 ≤ t → t ≤ m ∧ x.length ≤ 1048576) ∧ t ≤ 1048576 := by
  unfold laws_szStringS.f
  rw [w64 _ (by omega) (by omega)]
  by_cases h : m - (x.length : Int) < 0
  · exact ⟨_, Ev.pos h Ev.pure, by omega, by omega⟩
  · have key := downTo x.length (fun i => ∀ a : Int, 0 ≤ a → a ≤ 1048576 → ∃ t, Ev (fun k => laws_szStringS.l0 k x a (i : Int)) t ∧ (0 ≤ t → t ≤ a) ∧ t ≤ 1048576) ?_ ?_ 0 (by omega)
    · obtain ⟨t, a, b, c⟩ := key (m - (x.length : Int)) (by omega) (by omega)
      exact ⟨t, Ev.neg h a, by omega, c⟩
    · intro a a0 a1
      refine ⟨a, Ev.step ?_, by omega, a1⟩
      simp only [laws_szStringS.l0]
      exact Ev.neg (by omega) Ev.pure
    · intro i hi ih a a0 a1
      have hs := ok _ (List.getElem_mem hi)
      have hw : wrap64 (a - ((x[i]).size : Int)) = a - ((x[i]).size : Int) := w64 _ (by omega) (by omega)
      by_cases h2 : a - ((x[i]).size : Int) < 0
      · refine ⟨-1, Ev.step ?_, by omega, by omega⟩
        simp only [laws_szStringS.l0, rdStr x i hi, hw]
        exact Ev.pos (by omega) (Ev.pos (by omega) (Ev.pos h2 Ev.pure))
      · obtain ⟨r, hr, hr2, hr3⟩ := ih (a - ((x[i]).size : Int)) (by omega) (by omega)
        refine ⟨r, Ev.step ?_, by omega, by omega⟩
        simp only [laws_szStringS.l0, rdStr x i hi, hw, upN i (by omega)]
        exact Ev.pos (by omega) (Ev.pos (by omega) (Ev.neg h2 hr))
theorem toStringS_ev (x : List ByteArray) (hx : x.length ≤ 1048576) : Ev (fun k => laws_toStringS.f k x) x := by
  unfold laws_toStringS.f
  refine Ev.pos (by omega) (Ev.pos (by omega) ?_)
  have := setLoop (fun k y i => laws_toStringS.l0 k x y i) x (fun s => s) ?_ ?_ (List.replicate ((x.length : Int)).toNat (⟨#[]⟩ : ByteArray)) (by simp)
  · simpa using this
  · intro i y r hi hy h
    refine Ev.step ?_
    simp only [laws_toStringS.l0, rdStr x i hi, upN i (by omega)]
    exact Ev.pos (by omega) (Ev.pos (by omega) (Ev.pos (by omega) h))
  · intro y hy
    refine Ev.step ?_
    simp only [laws_toStringS.l0]
    exact Ev.neg (by omega) Ev.pure
theorem eqStringS_ev (x : List ByteArray) (hx : x.length ≤ 1048576) : Ev (fun k => laws_eqStringS.f k x x) true := by
  unfold laws_eqStringS.f
  refine Ev.pos rfl ?_
  refine countLoop (fun k i => laws_eqStringS.l0 k x x i) x.length true ?_ ?_
  · intro i hi h
    refine Ev.step ?_
    simp only [laws_eqStringS.l0, upN i (by omega)]
    exact Ev.pos (by omega) (Ev.pos (by omega) (Ev.pos (by omega) (Ev.pos trivial h)))
  · refine Ev.step ?_
    simp only [laws_eqStringS.l0]
    exact Ev.neg (by omega) Ev.pure

-- Units
theorem Ev.guard {f g : Nat → Option Bool} {a b : Bool} (h : Ev f a) (h2 : Ev g b) : Ev (fun k => (f k).bind fun t => if t = true then g k else some false) (a && b) := by
  cases a
  · exact Ev.bind h (Ev.neg (by simp) Ev.pure)
  · rw [Bool.true_and]
    exact Ev.bind h (Ev.pos rfl h2)
def cUnit (u : S65) : S55 := ⟨u.f0, u.f1, u.f2, u.f3, u.f4⟩
theorem rd65 (l : List S65) (i : Nat) (h : i < l.length) : rd_T65 l (i : Int) = l[i] := by unfold rd_T65; simp [List.getD_eq_getElem?_getD, List.getElem?_eq_getElem h]
theorem rd55 (l : List S55) (i : Nat) (h : i < l.length) : rd_T55 l (i : Int) = l[i] := by unfold rd_T55; simp [List.getD_eq_getElem?_getD, List.getElem?_eq_getElem h]
theorem szUnit_ev (a : ByteArray) (x y : List ByteArray) (b : ByteArray) (c : Bool) (ha : a.size ≤ 9223372036854775807) (hb : b.size ≤ 9223372036854775807) (hx : x.length ≤ 9223372036854775807) (hy : y.length ≤ 9223372036854775807)
    (okx : ∀ g ∈ x, g.size ≤ 9223372036854775807) (oky : ∀ g ∈ y, g.size ≤ 9223372036854775807) (m : Int) (h0 : 0 ≤ m) (h1 : m ≤ 1048576) :
    ∃ t, Ev (fun k => laws_szUnit.f k a x y b c m) t ∧ (0 ≤ t → t ≤ m ∧ x.length ≤ 1048576 ∧ y.length ≤ 1048576) ∧ t ≤ 1048576 := by
  unfold laws_szUnit.f
  rw [w64 (m - (a.size : Int)) (by omega) (by omega)]
  by_cases h : m - (a.size : Int) < 0
  · exact ⟨_, Ev.pos h Ev.pure, by omega, by omega⟩
  · obtain ⟨t, ht, hm, hn⟩ := szStringS_ev x hx (m - (a.size : Int)) (by omega) (by omega) okx
    by_cases h2 : t < 0
    · exact ⟨_, Ev.neg h (Ev.bind ht (Ev.pos h2 Ev.pure)), by omega, by omega⟩
    · obtain ⟨u, hu, hm2, hn2⟩ := szStringS_ev y hy t (by omega) (by omega) oky
      by_cases h3 : u < 0
      · exact ⟨_, Ev.neg h (Ev.bind ht (Ev.neg h2 (Ev.bind hu (Ev.pos h3 Ev.pure)))), by omega, by omega⟩
      · have hw : wrap64 (u - (b.size : Int)) = u - (b.size : Int) := w64 _ (by omega) (by omega)
        by_cases h4 : u - (b.size : Int) < 0
        · refine ⟨-1, Ev.neg h (Ev.bind ht (Ev.neg h2 (Ev.bind hu (Ev.neg h3 (Ev.pos ?_ Ev.pure))))), by omega, by omega⟩
          rw [hw]; exact h4
        · refine ⟨u - (b.size : Int), Ev.neg h (Ev.bind ht (Ev.neg h2 (Ev.bind hu (Ev.neg h3 ?_)))), by omega, by omega⟩
          rw [hw]
          exact Ev.neg h4 Ev.pure
theorem szUnitS_ev (x : List S65) (m : Int) (h0 : 0 ≤ m) (h1 : m ≤ 1048576) (hx : x.length ≤ 9223372036854775807)
    (ok : ∀ u ∈ x, u.f0.size ≤ 9223372036854775807 ∧ u.f3.size ≤ 9223372036854775807 ∧ (u.f1.length ≤ 9223372036854775807 ∧ ∀ g ∈ u.f1, g.size ≤ 9223372036854775807) ∧ (u.f2.length ≤ 9223372036854775807 ∧ ∀ g ∈ u.f2, g.size ≤ 9223372036854775807)) :
    ∃ t, Ev (fun k => laws_szUnitS.f k x m) t ∧ (0 ≤ t → x.length ≤ 1048576 ∧ ∀ u ∈ x, u.f1.length ≤ 1048576 ∧ u.f2.length ≤ 1048576) := by
  unfold laws_szUnitS.f
  rw [w64 _ (by omega) (by omega)]
  by_cases h : m - (x.length : Int) < 0
  · exact ⟨_, Ev.pos h Ev.pure, by omega⟩
  · have key := downTo x.length (fun i => ∀ a : Int, 0 ≤ a → a ≤ 1048576 → ∃ t, Ev (fun k => laws_szUnitS.l0 k x a (i : Int)) t ∧ (0 ≤ t → ∀ u ∈ x.drop i, u.f1.length ≤ 1048576 ∧ u.f2.length ≤ 1048576)) ?_ ?_ 0 (by omega)
    · obtain ⟨t, a, b⟩ := key (m - (x.length : Int)) (by omega) (by omega)
      refine ⟨t, Ev.neg h a, fun h3 => ⟨by omega, ?_⟩⟩
      simpa using b h3
    · intro a a0 a1
      refine ⟨a, Ev.step ?_, by simp⟩
      simp only [laws_szUnitS.l0]
      exact Ev.neg (by omega) Ev.pure
    · intro i hi ih a a0 a1
      obtain ⟨o1, o2, ⟨o3, o4⟩, o5, o6⟩ := ok _ (List.getElem_mem hi)
      obtain ⟨t, ht, hm, hn⟩ := szUnit_ev (x[i]).f0 (x[i]).f1 (x[i]).f2 (x[i]).f3 (x[i]).f4 o1 o2 o3 o5 o4 o6 a a0 a1
      by_cases h2 : t < 0
      · refine ⟨-1, Ev.step ?_, by omega⟩
        simp only [laws_szUnitS.l0, rd65 x i hi]
        exact Ev.pos (by omega) (Ev.pos (by omega) (Ev.bind ht (Ev.pos h2 Ev.pure)))
      · obtain ⟨r, hr, hr2⟩ := ih t (by omega) hn
        refine ⟨r, Ev.step ?_, ?_⟩
        · simp only [laws_szUnitS.l0, rd65 x i hi, upN i (by omega)]
          exact Ev.pos (by omega) (Ev.pos (by omega) (Ev.bind ht (Ev.neg h2 hr)))
        · intro h3 p hp
          rw [List.drop_eq_getElem_cons hi] at hp
          rcases List.mem_cons.1 hp with rfl | hp
          · exact (hm (by omega)).2
          · exact hr2 h3 p hp
theorem toUnitS_ev (x : List S65) (hx : x.length ≤ 1048576) (ok : ∀ u ∈ x, u.f1.length ≤ 1048576 ∧ u.f2.length ≤ 1048576) : Ev (fun k => laws_toUnitS.f k x) (x.map cUnit) := by
  unfold laws_toUnitS.f
  refine Ev.pos (by omega) (Ev.pos (by omega) ?_)
  refine setLoop (fun k y i => laws_toUnitS.l0 k x y i) x cUnit ?_ ?_ _ (by simp)
  · intro i y r hi hy h
    obtain ⟨o1, o2⟩ := ok _ (List.getElem_mem hi)
    refine Ev.step ?_
    simp only [laws_toUnitS.l0, rd65 x i hi, upN i (by omega), laws_toUnit.f]
    exact Ev.pos (by omega) (Ev.pos (by omega) (Ev.bind (Ev.bind (toStringS_ev _ o1) (Ev.bind (toStringS_ev _ o2) Ev.pure)) (Ev.pos (by omega) h)))
  · intro y hy
    refine Ev.step ?_
    simp only [laws_toUnitS.l0]
    exact Ev.neg (by omega) Ev.pure
theorem eqUnitS_ev (x : List S55) (hx : x.length ≤ 1048576) (ok : ∀ u ∈ x, u.f1.length ≤ 1048576 ∧ u.f2.length ≤ 1048576) : Ev (fun k => laws_eqUnitS.f k x x) true := by
  unfold laws_eqUnitS.f
  refine Ev.pos rfl ?_
  refine countLoop (fun k i => laws_eqUnitS.l0 k x x i) x.length true ?_ ?_
  · intro i hi h
    obtain ⟨o1, o2⟩ := ok _ (List.getElem_mem hi)
    refine Ev.step ?_
    simp only [laws_eqUnitS.l0, rd55 x i hi, upN i (by omega), laws_eqUnit.f]
    exact Ev.pos (by omega) (Ev.pos (by omega) (Ev.pos (by omega) (Ev.bind (Ev.pos trivial (Ev.bind (eqStringS_ev _ o1) (Ev.pos rfl (Ev.bind (eqStringS_ev _ o2) (Ev.pos rfl (Ev.pos trivial (Ev.neg (by simp) Ev.pure))))))) (Ev.pos rfl h))))
  · refine Ev.step ?_
    simp only [laws_eqUnitS.l0]
    exact Ev.neg (by omega) Ev.pure
theorem specName_ev (s : ByteArray) : Ev (fun k => spec_NameOk.f k s) (nmOk s) := Ev.of 63 (fun k hk => spec_NameOk_f s k hk)
theorem implName_ev (s : ByteArray) : Ev (fun k => impl_NameOk.f k s) (nmOk s) := Ev.of 63 (fun k hk => impl_NameOk_f s k hk)
theorem rising_ev (l : List ByteArray) (hl : l.length ≤ 1048576) : ∃ b, Ev (fun k => spec_l17Ascending.f k l) (b && decide ((l.length : Int) ≤ 20)) ∧ Ev (fun k => impl_rising_hs.f k l) b := by
  unfold spec_l17Ascending.f impl_rising_hs.f
  refine downTo (l.length + 1) (fun i => 0 < i → ∃ b, Ev (fun k => spec_l17Ascending.l0 k l (i : Int)) (b && decide ((l.length : Int) ≤ 20)) ∧ Ev (fun k => impl_rising_hs.l0 k l (i : Int)) b) ?_ ?_ 1 (by omega) (by omega)
  · intro _
    refine ⟨true, Ev.step ?_, Ev.step ?_⟩
    · simp only [spec_l17Ascending.l0, Bool.true_and]
      exact Ev.neg (by omega) Ev.pure
    · simp only [impl_rising_hs.l0]
      exact Ev.neg (by omega) Ev.pure
  · intro i hi ih h0
    by_cases h : i < l.length
    · obtain ⟨b, h1, h2⟩ := ih (by omega)
      have hd := dnN i (by omega) h0
      have hi1 : i - 1 < l.length := by omega
      by_cases c : Op.bytesLess (l[i - 1]).toList (l[i]).toList = true
      · refine ⟨b, Ev.step ?_, Ev.step ?_⟩
        · simp only [spec_l17Ascending.l0, hd, rdStr l i h, rdStr l (i - 1) hi1, upN i (by omega)]
          exact Ev.pos (by omega) (Ev.pos (by omega) (Ev.pos (by omega) (Ev.pos (by omega) (Ev.pos c h1))))
        · simp only [impl_rising_hs.l0, hd, rdStr l i h, rdStr l (i - 1) hi1, upN i (by omega)]
          exact Ev.pos (by omega) (Ev.pos (by omega) (Ev.pos (by omega) (Ev.pos (by omega) (Ev.pos c h2))))
      · refine ⟨false, Ev.step ?_, Ev.step ?_⟩
        · simp only [spec_l17Ascending.l0, hd, rdStr l i h, rdStr l (i - 1) hi1, Bool.false_and]
          exact Ev.pos (by omega) (Ev.pos (by omega) (Ev.pos (by omega) (Ev.pos (by omega) (Ev.neg c Ev.pure))))
        · simp only [impl_rising_hs.l0, hd, rdStr l i h, rdStr l (i - 1) hi1]
          exact Ev.pos (by omega) (Ev.pos (by omega) (Ev.pos (by omega) (Ev.pos (by omega) (Ev.neg c Ev.pure))))
    · refine ⟨true, Ev.step ?_, Ev.step ?_⟩
      · simp only [spec_l17Ascending.l0, Bool.true_and]
        exact Ev.neg (by omega) Ev.pure
      · simp only [impl_rising_hs.l0]
        exact Ev.neg (by omega) Ev.pure
theorem names_ev (l : List ByteArray) (hl : l.length ≤ 1048576) (b : Bool) (hb : Ev (fun k => impl_rising_hs.f k l) b) : ∃ c, Ev (fun k => spec_l8Names.f k l) (c && decide ((l.length : Int) ≤ 2000)) ∧ Ev (fun k => impl_namesUp.f k l) (c && b) := by
  unfold spec_l8Names.f impl_namesUp.f
  refine downTo l.length (fun i => ∃ c, Ev (fun k => spec_l8Names.l0 k l (i : Int)) (c && decide ((l.length : Int) ≤ 2000)) ∧ Ev (fun k => impl_namesUp.l0 k l l (l.length : Int) (i : Int)) (c && b)) ?_ ?_ 0 (by omega)
  · refine ⟨true, Ev.step ?_, Ev.step ?_⟩
    · simp only [spec_l8Names.l0, Bool.true_and]
      exact Ev.neg (by omega) Ev.pure
    · simp only [impl_namesUp.l0, Bool.true_and]
      exact Ev.neg (by omega) (Ev.bind hb Ev.pure)
  · intro i hi ⟨c, h1, h2⟩
    refine ⟨nmOk l[i] && c, Ev.step ?_, Ev.step ?_⟩
    · simp only [spec_l8Names.l0, rdStr l i hi, upN i (by omega), Bool.and_assoc]
      exact Ev.pos (by omega) (Ev.pos (by omega) (Ev.guard (specName_ev _) h1))
    · simp only [impl_namesUp.l0, rdStr l i hi, upN i (by omega), Bool.and_assoc]
      exact Ev.pos (by omega) (Ev.pos (by omega) (Ev.pos (by omega) (Ev.guard (implName_ev _) h2)))
theorem UnitsOk_ev (x : List S55) (hx : x.length ≤ 1048576) (ok : ∀ u ∈ x, u.f1.length ≤ 1048576 ∧ u.f2.length ≤ 1048576) : ∃ b, Ev (fun k => spec_UnitsOk.f k x) b ∧ Ev (fun k => impl_UnitsOk.f k x) b := by
  unfold spec_UnitsOk.f impl_UnitsOk.f
  by_cases c0 : (x.length : Int) > 100
  · exact ⟨false, Ev.pos c0 Ev.pure, Ev.pos c0 Ev.pure⟩
  have key := downTo x.length (fun i => ∃ b, Ev (fun k => spec_UnitsOk.l0 k x (i : Int)) b ∧ Ev (fun k => impl_UnitsOk.l0 k x x (x.length : Int) (i : Int)) b) ?_ ?_ 0 (by omega)
  · obtain ⟨b, h1, h2⟩ := key
    exact ⟨b, Ev.neg c0 h1, Ev.neg c0 h2⟩
  · refine ⟨true, Ev.step ?_, Ev.step ?_⟩
    · simp only [spec_UnitsOk.l0]
      exact Ev.neg (by omega) Ev.pure
    · simp only [impl_UnitsOk.l0]
      exact Ev.neg (by omega) Ev.pure
  · intro i hi ⟨b', g1, g2⟩
    obtain ⟨o1, o2⟩ := ok _ (List.getElem_mem hi)
    obtain ⟨b1, a1, r1⟩ := rising_ev (x[i]).f1 o1
    obtain ⟨b2, a2, r2⟩ := rising_ev (x[i]).f2 o2
    obtain ⟨n1, s1, i1⟩ := names_ev (x[i]).f1 o1 b1 r1
    obtain ⟨n2, s2, i2⟩ := names_ev (x[i]).f2 o2 b2 r2
    have fs : Ev (fun k => if ((x[i]).f3.size : Int) > 4000 then some false else spec_UnitsOk.l0 k x ((i + 1 : Nat) : Int)) (if ((x[i]).f3.size : Int) > 4000 then false else b') := by
      by_cases c : ((x[i]).f3.size : Int) > 4000
      · rw [if_pos c]; exact Ev.pos c Ev.pure
      · rw [if_neg c]; exact Ev.neg c g1
    have fi : Ev (fun k => if ((x[i]).f3.size : Int) > 4000 then some false else impl_UnitsOk.l0 k x x (x.length : Int) ((i + 1 : Nat) : Int)) (if ((x[i]).f3.size : Int) > 4000 then false else b') := by
      by_cases c : ((x[i]).f3.size : Int) > 4000
      · rw [if_pos c]; exact Ev.pos c Ev.pure
      · rw [if_neg c]; exact Ev.neg c g2
    generalize (if ((x[i]).f3.size : Int) > 4000 then false else b') = e at fs fi
    have ts := Ev.guard a1 (Ev.guard a2 (Ev.guard s1 (Ev.guard s2 fs)))
    have ti0 := Ev.guard i1 (Ev.guard i2 fi)
    have ti : Ev (fun k => if ((x[i]).f1.length : Int) > 20 then some false else (if ((x[i]).f2.length : Int) > 20 then some false else ((impl_namesUp.f k (x[i]).f1).bind fun t => if t = true then ((impl_namesUp.f k (x[i]).f2).bind fun t => if t = true then (if ((x[i]).f3.size : Int) > 4000 then some false else impl_UnitsOk.l0 k x x (x.length : Int) ((i + 1 : Nat) : Int)) else some false) else some false)))
        ((b1 && decide (((x[i]).f1.length : Int) ≤ 20)) && ((b2 && decide (((x[i]).f2.length : Int) ≤ 20)) && ((n1 && decide (((x[i]).f1.length : Int) ≤ 2000)) && ((n2 && decide (((x[i]).f2.length : Int) ≤ 2000)) && e)))) := by
      by_cases l1 : ((x[i]).f1.length : Int) > 20
      · rw [decide_eq_false (show ¬ ((x[i]).f1.length : Int) ≤ 20 by omega), Bool.and_false, Bool.false_and]
        exact Ev.pos l1 Ev.pure
      · by_cases l2 : ((x[i]).f2.length : Int) > 20
        · rw [decide_eq_false (show ¬ ((x[i]).f2.length : Int) ≤ 20 by omega), Bool.and_false, Bool.false_and, Bool.and_false]
          exact Ev.neg l1 (Ev.pos l2 Ev.pure)
        · rw [decide_eq_true (show ((x[i]).f1.length : Int) ≤ 20 by omega), decide_eq_true (show ((x[i]).f2.length : Int) ≤ 20 by omega), decide_eq_true (show ((x[i]).f1.length : Int) ≤ 2000 by omega), decide_eq_true (show ((x[i]).f2.length : Int) ≤ 2000 by omega)]
          have e1 : ((b1 && true) && ((b2 && true) && ((n1 && true) && ((n2 && true) && e)))) = ((n1 && b1) && ((n2 && b2) && e)) := by
            cases b1 <;> cases b2 <;> cases n1 <;> cases n2 <;> rfl
          rw [e1]
          exact Ev.neg l1 (Ev.neg l2 ti0)
    generalize ((b1 && decide (((x[i]).f1.length : Int) ≤ 20)) && ((b2 && decide (((x[i]).f2.length : Int) ≤ 20)) && ((n1 && decide (((x[i]).f1.length : Int) ≤ 2000)) && ((n2 && decide (((x[i]).f2.length : Int) ≤ 2000)) && e)))) = q at ts ti
    refine ⟨nmOk (x[i]).f0 && (if 0 < i then Op.bytesLess ((x[i - 1]).f0).toList ((x[i]).f0).toList && q else q), Ev.step ?_, Ev.step ?_⟩
    · simp only [spec_UnitsOk.l0, rd55 x i hi, upN i (by omega)]
      refine Ev.pos (by omega) (Ev.pos (by omega) (Ev.guard (specName_ev _) ?_))
      by_cases c : 0 < i
      · have hi1 : i - 1 < x.length := by omega
        simp only [if_pos c, dnN i (by omega) c, rd55 x (i - 1) hi1]
        refine Ev.pos (by omega) (Ev.pos (by omega) (Ev.pos (by omega) ?_))
        by_cases d : Op.bytesLess ((x[i - 1]).f0).toList ((x[i]).f0).toList = true
        · rw [d, Bool.true_and]
          exact Ev.pos rfl ts
        · rw [Bool.eq_false_iff.mpr d, Bool.false_and]
          exact Ev.neg (by simp) Ev.pure
      · rw [if_neg c]
        exact Ev.neg (by omega) ts
    · simp only [impl_UnitsOk.l0, rd55 x i hi, upN i (by omega)]
      refine Ev.pos (by omega) (Ev.pos (by omega) (Ev.pos (by omega) (Ev.guard (implName_ev _) ?_)))
      by_cases c : 0 < i
      · have hi1 : i - 1 < x.length := by omega
        simp only [if_pos c, dnN i (by omega) c, rd55 x (i - 1) hi1]
        refine Ev.pos (by omega) (Ev.pos (by omega) (Ev.pos (by omega) ?_))
        by_cases d : Op.bytesLess ((x[i - 1]).f0).toList ((x[i]).f0).toList = true
        · rw [d, Bool.true_and]
          exact Ev.pos rfl ti
        · rw [Bool.eq_false_iff.mpr d, Bool.false_and]
          exact Ev.neg (by simp) Ev.pure
      · rw [if_neg c]
        exact Ev.neg (by omega) ti

theorem FnExactUnitsOk : laws_FnExactUnitsOk.Pure := by
  intro l hl
  have mx : maxLen = 9223372036854775807 := by decide
  obtain ⟨t, ht, hb⟩ := szUnitS_ev l 1048576 (by omega) (by omega) (by have := hl.1; omega) (fun u hu => by
    obtain ⟨h1, ⟨h2, h3⟩, ⟨h4, h5⟩, h6, _⟩ := hl.2 u hu
    exact ⟨by omega, by omega, ⟨by omega, fun g hg => by have := h3 g hg; omega⟩, by omega, fun g hg => by have := h5 g hg; omega⟩)
  refine Ev.at ?_
  unfold laws_FnExactUnitsOk.f
  refine Ev.bind ht ?_
  by_cases h0 : t < 0
  · exact Ev.pos h0 Ev.pure
  · obtain ⟨hb1, hs⟩ := hb (by omega)
    have hc := toUnitS_ev l (by omega) hs
    have ok : ∀ u ∈ l.map cUnit, u.f1.length ≤ 1048576 ∧ u.f2.length ≤ 1048576 := by
      intro p hp
      obtain ⟨q, hq, rfl⟩ := List.mem_map.1 hp
      simpa [cUnit] using hs q hq
    obtain ⟨b, h1, h2⟩ := UnitsOk_ev (l.map cUnit) (by simp; omega) ok
    exact Ev.neg h0 (Ev.bind hc (Ev.bind h1 (Ev.bind hc (Ev.bind h2 (Ev.neg (by simp) (Ev.bind hc (Ev.bind (eqUnitS_ev _ (by simp; omega) ok) (Ev.pos rfl Ev.pure))))))))

end Go.Proofs.Ytnahkojlamficaa.Pure
