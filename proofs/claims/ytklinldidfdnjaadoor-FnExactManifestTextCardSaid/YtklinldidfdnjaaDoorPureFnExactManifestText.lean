/- The pure statement of FnExactManifestText: the same manifests are right, and their texts are the same bytes. -/
import Derived.Test.YtklinldidfdnjaaDoorPFnExactManifestTextx0
import Derived.Test.YtklinldidfdnjaaDoorPFnExactManifestTextx1
import Derived.Test.YtklinldidfdnjaaDoorPFnExactManifestTextx2
import Derived.Test.YtklinldidfdnjaaDoorPFnExactManifestTextx3
import Derived.Test.YtklinldidfdnjaaDoorPFnExactManifestTextx4
import Derived.Test.YtklinldidfdnjaaDoorPFnExactManifestTextx5
import Derived.Test.YtklinldidfdnjaaDoorPFnExactManifestTextx6
import Derived.Test.YtklinldidfdnjaaDoorPFnExactManifestTextx7
import Derived.Laws.BitsLemmas
import Derived.Laws.Bits64b
import Derived.Lib.Bytealg
namespace Go.Proofs.YtklinldidfdnjaaDoor.Pure
open Go.RowKit Go.Proofs.YtklinldidfdnjaaDoorW.PrintWords Go.Proofs.YtklinldidfdnjaaDoorW.PrintLast Go.Proofs.YtklinldidfdnjaaDoorW.PrintMore Go.Proofs.YtklinldidfdnjaaDoor.PFnExactManifestText

theorem u64w (n : Int) (h0 : 0 ≤ n) (h1 : n < 18446744073709551616) : IntKind.u64.wrap n = n := by
  simp [IntKind.wrap, IntKind.signed, IntKind.bits]; omega
theorem i64w (n : Int) (h0 : -9223372036854775808 ≤ n) (h1 : n < 9223372036854775808) : IntKind.i64.wrap n = n := by
  rw [IntKind.wrap_i64]; omega
theorem w64 (n : Int) (h0 : -9223372036854775808 ≤ n) (h1 : n < 9223372036854775808) : wrap64 n = n := by unfold wrap64; omega
theorem up1 (i : Int) (h0 : 0 ≤ i) (h : i < 9223372036854775807) : wrap64 (i + 1) = i + 1 := by unfold wrap64; omega
theorem u64_lo (n : Int) : 0 ≤ IntKind.u64.wrap n := by simp [IntKind.wrap, IntKind.signed, IntKind.bits]; omega
theorem u64_hi (n : Int) : IntKind.u64.wrap n < 18446744073709551616 := by simp [IntKind.wrap, IntKind.signed, IntKind.bits]; omega
theorem u64_wf (x : Int) (h : (Lit.int .u64 x).wf = true) : 0 ≤ x ∧ x < 18446744073709551616 := by
  simp [Lit.wf, IntKind.min, IntKind.max, IntKind.signed, IntKind.bits] at h; omega
theorem and31 (x : Int) (h0 : 0 ≤ x) (h1 : x < 18446744073709551616) : Go.bits .and .u64 x 31 = x % 32 := by
  have := bits_mask .u64 64 (by decide) (fun n a b => u64w n a (by simpa using b)) 5 (by decide) x h0 (by simpa using h1)
  simpa using this
theorem or5 (a c : Int) (h0 : 0 ≤ a) (h1 : a * 32 < 18446744073709551616) (hc0 : 0 ≤ c) (hc : c < 32) : Go.bits .or .u64 (a * 32) c = a * 32 + c := by
  have := bits_join .u64 64 (by decide) (fun n x y => u64w n x (by simpa using y)) 5 (a * 32) c (by omega) (by omega) (by simpa using h1) hc0 (by simpa using hc) (by simp; omega)
  exact this
theorem bt_list (l : List UInt8) (i : Int) : bt ⟨l.toArray⟩ i = ((l.getD i.toNat 0).toNat : Int) := by
  unfold bt
  split
  · rename_i h
    have h' : i.toNat < l.length := by simpa [ByteArray.size] using h
    rw [List.getD_eq_getElem?_getD, List.getElem?_eq_getElem h']
    rfl
  · rename_i h
    have h' : l.length ≤ i.toNat := by simpa [ByteArray.size] using h
    rw [List.getD_eq_getElem?_getD, List.getElem?_eq_none h']; rfl
/-- The alphabet of chapter 1. -/
def alpha : ByteArray := ⟨#[48, 49, 50, 51, 52, 53, 54, 55, 56, 57, 97, 98, 99, 100, 102, 103, 104, 105, 106, 107, 108, 109, 110, 112, 113, 114, 115, 118, 119, 120, 121, 122]⟩
/-- The n-th digit from the right, as its byte. -/
def dg (x : Int) (n : Nat) : Int := bt alpha (x / 2 ^ (5 * n) % 32)
/-- The last n digits. -/
def ds (x : Int) : Nat → List Int
  | 0 => []
  | n + 1 => dg x n :: ds x n
theorem ds_length (x : Int) : ∀ n, (ds x n).length = n
  | 0 => rfl
  | n + 1 => by simp [ds, ds_length x n]
/-- The thirteen bytes. -/
def word (x : Int) : ByteArray := strOfNums (ds x 13)
theorem div_lo (x : Int) (h0 : 0 ≤ x) (n : Nat) : 0 ≤ x / 2 ^ n := Int.ediv_nonneg h0 (by have := Nat.two_pow_pos n; exact_mod_cast Nat.zero_le _)
theorem div_hi (x : Int) (h0 : 0 ≤ x) (n : Nat) : x / 2 ^ n ≤ x := Int.ediv_le_self _ h0
theorem shr5 (x : Int) (n : Nat) (hn : n ≤ 12) : shr .u64 x (5 * n) = x / 2 ^ (5 * n) := by
  unfold shr
  have e : (5 * (n : Int)).toNat = 5 * n := by omega
  rw [e, Nat.min_eq_left (by simp [IntKind.bits]; omega)]
/-- What a byte is worth as a digit; -1: it is none. -/
def dv (c : Int) : Int := Lib.indexByte alpha.data.toList c.toNat.toUInt8
theorem dv_all : ∀ c : Fin 256, -1 ≤ dv (c.val : Int) ∧ dv (c.val : Int) < 32 := by decide +kernel
theorem dv_bounds (c : Int) (h0 : 0 ≤ c) (h1 : c ≤ 255) : -1 ≤ dv c ∧ dv c < 32 := by
  have := dv_all ⟨c.toNat, by omega⟩
  simpa [Int.toNat_of_nonneg h0] using this
/-- The number that thirteen digits tell, from the i-th on. -/
def rwGo (s : ByteArray) : Nat → Int → Nat → Int × Bool
  | 0, x, _ => (x, true)
  | d + 1, x, i => if dv (bt s i) < 0 then (0, false) else if i = 0 ∧ dv (bt s i) > 15 then (0, false) else rwGo s d (x * 32 + dv (bt s i)) (i + 1)
def rw32 (s : ByteArray) : Int × Bool := if s.size = 13 then rwGo s 13 0 0 else (0, false)
/-- The bound that the digits so far keep. -/
def lim (d : Nat) : Int := if d = 13 then 1 else 2 ^ (64 - 5 * d)
theorem lim_all : ∀ d : Fin 13, lim d.val ≤ 18446744073709551616 ∧ 0 < lim d.val ∧ (d.val < 12 → lim (d.val + 1) * 32 = lim d.val) ∧ (d.val = 12 → lim d.val = 16) ∧ lim (d.val + 1) * 32 ≤ 18446744073709551616 := by decide +kernel
theorem word_size (x : Int) : (word x).size = 13 := by unfold word; rw [strOfNums_size, ds_length]

-- Ev
/-- With fuel enough the run answers r. -/
def Ev {α : Type} (f : Nat → Option α) (r : α) : Prop := ∃ K, ∀ k, K ≤ k → f k = some r
theorem Ev.pure {α : Type} {r : α} : Ev (fun _ => some r) r := ⟨0, fun _ _ => rfl⟩
theorem Ev.of {α : Type} {f : Nat → Option α} {r : α} (N : Nat) (h : ∀ k, N ≤ k → f k = some r) : Ev f r := ⟨N, h⟩
theorem Ev.step {α : Type} {f : Nat → Option α} {r : α} (h : Ev (fun k => f (k + 1)) r) : Ev f r := by
  obtain ⟨K, h⟩ := h
  refine ⟨K + 1, fun k hk => ?_⟩
  obtain ⟨m, rfl⟩ : ∃ m, k = m + 1 := ⟨k - 1, by omega⟩
  exact h m (by omega)
theorem Ev.bind {α β : Type} {f : Nat → Option α} {g : Nat → α → Option β} {a : α} {r : β} (h : Ev f a) (h2 : Ev (fun k => g k a) r) : Ev (fun k => (f k).bind (g k)) r := by
  obtain ⟨K, h⟩ := h
  obtain ⟨K2, h2⟩ := h2
  refine ⟨K + K2, fun k hk => ?_⟩
  show (f k).bind (g k) = some r
  rw [h k (by omega)]
  exact h2 k (by omega)
theorem Ev.cons {α β : Type} {x : Option α} {g : Nat → α → Option β} {a : α} {r : β} (h : x = some a) (h2 : Ev (fun k => g k a) r) : Ev (fun k => x.bind (g k)) r := by
  subst h
  exact h2
theorem Ev.pos {α : Type} {c : Prop} [Decidable c] {f g : Nat → Option α} {r : α} (hc : c) (h : Ev f r) : Ev (fun k => if c then f k else g k) r := by
  simpa only [if_pos hc] using h
theorem Ev.neg {α : Type} {c : Prop} [Decidable c] {f g : Nat → Option α} {r : α} (hc : ¬ c) (h : Ev g r) : Ev (fun k => if c then f k else g k) r := by
  simpa only [if_neg hc] using h
theorem Ev.at {α : Type} {f : Nat → Option α} {r : α} (h : Ev f r) : ∃ k, f k = some r := by
  obtain ⟨K, h⟩ := h
  exact ⟨K, h K (Nat.le_refl _)⟩
theorem Ev.uniq {α : Type} {f : Nat → Option α} {r s : α} (h : Ev f r) (h2 : Ev f s) : r = s := by
  obtain ⟨K, h⟩ := h
  obtain ⟨K2, h2⟩ := h2
  have a := h (K + K2) (by omega)
  have b := h2 (K + K2) (by omega)
  rw [a] at b
  exact Option.some.inj b
/-- From the end down. -/
theorem downTo (n : Nat) (P : Nat → Prop) (base : P n) (step : ∀ i, i < n → P (i + 1) → P i) : ∀ i, i ≤ n → P i := by
  intro i hi
  obtain ⟨d, rfl⟩ : ∃ d, i = n - d := ⟨n - i, by omega⟩
  clear hi
  induction d with
  | zero => exact base
  | succ d ih =>
    by_cases h : d < n
    · refine step _ (by omega) ?_
      have e : n - (d + 1) + 1 = n - d := by omega
      rw [e]; exact ih
    · have e : n - (d + 1) = n - d := by omega
      rw [e]; exact ih
theorem upN (i : Nat) (h : i < 1000000000000000) : wrap64 ((i : Int) + 1) = ((i + 1 : Nat) : Int) := by unfold wrap64; omega
theorem dnN (i : Nat) (h : i < 1000000000000000) (h0 : 0 < i) : wrap64 ((i : Int) - 1) = ((i - 1 : Nat) : Int) := by unfold wrap64; omega
/-- A loop that sets place by place leaves the row's picture. -/
theorem setLoop {A B : Type} (L : Nat → List B → Int → Option (List B)) (x : List A) (c : A → B)
    (step : ∀ (i : Nat) (y : List B) (r : List B) (h : i < x.length), y.length = x.length → Ev (fun k => L k (y.set i (c x[i])) ((i + 1 : Nat) : Int)) r → Ev (fun k => L k y (i : Int)) r)
    (stop : ∀ y : List B, y.length = x.length → Ev (fun k => L k y ((x.length : Nat) : Int)) y) :
    ∀ y : List B, y.length = x.length → Ev (fun k => L k y 0) (x.map c) := by
  have main := downTo x.length (fun i => ∀ y : List B, y.length = x.length → y.take i = (x.map c).take i → Ev (fun k => L k y (i : Int)) (x.map c)) ?_ ?_
  · intro y hy
    exact main 0 (by omega) y hy (by simp)
  · intro y hy he
    rw [List.take_of_length_le (by omega), List.take_of_length_le (by simp)] at he
    have := stop y hy
    rw [he] at this
    rw [he] at hy
    exact he ▸ stop y (by rw [he]; exact hy)
  · intro i hi ih y hy he
    refine step i y _ hi hy (ih _ (by simp [hy]) ?_)
    rw [List.take_add_one, List.take_add_one, List.take_set_of_le (by omega), he, List.getElem?_set_self (by omega)]
    simp [List.getElem?_eq_getElem hi]
theorem countLoop {α : Type} (L : Nat → Int → Option α) (n : Nat) (r : α) (step : ∀ i : Nat, i < n → Ev (fun k => L k ((i + 1 : Nat) : Int)) r → Ev (fun k => L k (i : Int)) r) (stop : Ev (fun k => L k ((n : Nat) : Int)) r) : Ev (fun k => L k 0) r :=
  downTo n (fun i => Ev (fun k => L k (i : Int)) r) stop (fun i hi h => step i hi h) 0 (by omega)

-- NameOk
def nmByte (c : Int) : Bool := (decide (97 ≤ c) && decide (c ≤ 122)) || (decide (65 ≤ c) && decide (c ≤ 90)) || (decide (48 ≤ c) && decide (c ≤ 57)) || c == 45 || c == 95 || c == 46 || c == 43
/-- Are n bytes from the i-th on those of a name? -/
def nmGo (s : ByteArray) : Nat → Nat → Bool
  | 0, _ => true
  | d + 1, i => nmByte (bt s i) && nmGo s d (i + 1)
/-- A name. -/
def nmOk (s : ByteArray) : Bool := decide (1 ≤ s.size) && decide (s.size ≤ 60) && !(bt s 0 == 46) && nmGo s s.size 0
theorem l1Letter_f (c : Int) : spec_l1Letter.f c = some ((decide (97 ≤ c) && decide (c ≤ 122)) || (decide (65 ≤ c) && decide (c ≤ 90))) := by
  unfold spec_l1Letter.f
  by_cases h1 : 97 ≤ c <;> by_cases h2 : c ≤ 122 <;> by_cases h3 : 65 ≤ c <;> by_cases h4 : c ≤ 90 <;> simp [h1, h2, h3, h4] <;> omega
theorem l1Digit_f (c : Int) : spec_l1Digit.f c = some (decide (48 ≤ c) && decide (c ≤ 57)) := by
  unfold spec_l1Digit.f
  by_cases h1 : 48 ≤ c <;> by_cases h2 : c ≤ 57 <;> simp [h1, h2]
theorem letter_f (c : Int) : impl_letter.f c = some ((decide (97 ≤ c) && decide (c ≤ 122)) || (decide (65 ≤ c) && decide (c ≤ 90))) := by
  unfold impl_letter.f
  by_cases h1 : 97 ≤ c <;> by_cases h2 : c ≤ 122 <;> by_cases h3 : 65 ≤ c <;> by_cases h4 : c ≤ 90 <;> simp [h1, h2, h3, h4] <;> omega
theorem digit_f (c : Int) : impl_digit.f c = some (decide (48 ≤ c) && decide (c ≤ 57)) := by
  unfold impl_digit.f
  by_cases h1 : 48 ≤ c <;> by_cases h2 : c ≤ 57 <;> simp [h1, h2]
theorem spec_NameOk_loop (s : ByteArray) (hs : s.size ≤ 60) : ∀ (d i k : Nat), i + d = s.size → d < k → spec_NameOk.l0 k s (i : Int) = some (nmGo s d i) := by
  intro d
  induction d with
  | zero =>
    intro i k hi hk
    obtain ⟨k, rfl⟩ : ∃ m, k = m + 1 := ⟨k - 1, by omega⟩
    simp only [spec_NameOk.l0]; rw [if_neg (by omega)]; rfl
  | succ d ih =>
    intro i k hi hk
    obtain ⟨k, rfl⟩ : ∃ m, k = m + 1 := ⟨k - 1, by omega⟩
    have e3 : wrap64 ((i : Int) + 1) = ((i + 1 : Nat) : Int) := by rw [up1 _ (by omega) (by omega)]; omega
    simp only [spec_NameOk.l0, nmGo, nmByte]
    rw [if_pos (by omega), if_pos (by omega), l1Letter_f, l1Digit_f, e3, ih (i + 1) k (by omega) (by omega)]
    simp only [Option.bind_some]
    generalize bt s (i : Int) = c
    generalize nmGo s d (i + 1) = g
    generalize ((decide (97 ≤ c) && decide (c ≤ 122)) || (decide (65 ≤ c) && decide (c ≤ 90))) = p
    generalize (decide (48 ≤ c) && decide (c ≤ 57)) = q
    cases p <;> cases q <;> simp
    by_cases h1 : c = 45
    · simp [h1]
    · by_cases h2 : c = 95
      · simp [h2]
      · by_cases h3 : c = 46
        · simp [h3]
        · by_cases h4 : c = 43
          · simp [h4]
          · simp [h1, h2, h3, h4]
theorem spec_NameOk_f (s : ByteArray) (k : Nat) (hk : 63 ≤ k) : spec_NameOk.f k s = some (nmOk s) := by
  obtain ⟨k, rfl⟩ : ∃ m, k = m + 1 := ⟨k - 1, by omega⟩
  unfold spec_NameOk.f nmOk
  simp only [spec_NameOk.j0]
  by_cases h1 : (s.size : Int) < 1
  · rw [if_pos h1]
    have : ¬ 1 ≤ s.size := by omega
    simp [this]
  · rw [if_neg h1]
    have e1 : 1 ≤ s.size := by omega
    by_cases h2 : (s.size : Int) > 60
    · rw [if_pos h2]
      have : ¬ s.size ≤ 60 := by omega
      simp [this]
    · rw [if_neg h2, if_pos (by omega)]
      have e2 : s.size ≤ 60 := by omega
      have h := spec_NameOk_loop s e2 s.size 0 k (by omega) (by omega)
      rw [show ((0 : Nat) : Int) = 0 from rfl] at h
      rw [h]
      by_cases h3 : bt s 0 = 46
      · simp [h3]
      · simp [h3, e1, e2]
theorem w32_byte (s : ByteArray) (i : Int) : wrap32 (bt s i) = bt s i := by
  have := bt_range s i
  unfold wrap32; omega
theorem impl_NameOk_loop (s : ByteArray) (hs : s.size ≤ 60) : ∀ (d i k : Nat), i + d = s.size → d < k → impl_NameOk.l0 k s (s.size : Int) (i : Int) = some (nmGo s d i) := by
  intro d
  induction d with
  | zero =>
    intro i k hi hk
    obtain ⟨k, rfl⟩ : ∃ m, k = m + 1 := ⟨k - 1, by omega⟩
    simp only [impl_NameOk.l0]; rw [if_neg (by omega)]; rfl
  | succ d ih =>
    intro i k hi hk
    obtain ⟨k, rfl⟩ : ∃ m, k = m + 1 := ⟨k - 1, by omega⟩
    have e3 : wrap64 ((i : Int) + 1) = ((i + 1 : Nat) : Int) := by rw [up1 _ (by omega) (by omega)]; omega
    have hb := bt_range s (i : Int)
    have e4 : strings_ContainsRune.f (⟨#[45, 95, 46, 43]⟩ : ByteArray) (bt s (i : Int)) = some (bt s (i : Int) == 45 || bt s (i : Int) == 95 || bt s (i : Int) == 46 || bt s (i : Int) == 43) := by
      unfold strings_ContainsRune.f
      rw [if_pos (by rw [Lib.toList_data]), if_pos (by omega)]
    simp only [impl_NameOk.l0, nmGo, nmByte]
    rw [if_pos (by omega), if_pos (by omega), if_pos (by omega), letter_f, digit_f, w32_byte, e4, e3, ih (i + 1) k (by omega) (by omega)]
    simp only [Option.bind_some]
    generalize bt s (i : Int) = c
    generalize nmGo s d (i + 1) = g
    generalize ((decide (97 ≤ c) && decide (c ≤ 122)) || (decide (65 ≤ c) && decide (c ≤ 90))) = p
    generalize (decide (48 ≤ c) && decide (c ≤ 57)) = q
    generalize (c == 45) = r1
    generalize (c == 95) = r2
    generalize (c == 46) = r3
    generalize (c == 43) = r4
    cases p <;> cases q <;> cases r1 <;> cases r2 <;> cases r3 <;> cases r4 <;> simp
theorem impl_NameOk_f (s : ByteArray) (k : Nat) (hk : 63 ≤ k) : impl_NameOk.f k s = some (nmOk s) := by
  obtain ⟨k, rfl⟩ : ∃ m, k = m + 1 := ⟨k - 1, by omega⟩
  unfold impl_NameOk.f nmOk
  simp only [impl_NameOk.j0]
  by_cases h1 : (s.size : Int) < 1
  · rw [if_pos h1]
    have : ¬ 1 ≤ s.size := by omega
    simp [this]
  · rw [if_neg h1]
    have e1 : 1 ≤ s.size := by omega
    by_cases h2 : (s.size : Int) > 60
    · rw [if_pos h2]
      have : ¬ s.size ≤ 60 := by omega
      simp [this]
    · rw [if_neg h2, if_pos (by omega)]
      have e2 : s.size ≤ 60 := by omega
      have h := impl_NameOk_loop s e2 s.size 0 k (by omega) (by omega)
      rw [show ((0 : Nat) : Int) = 0 from rfl] at h
      rw [h]
      by_cases h3 : bt s 0 = 46
      · simp [h3]
      · simp [h3, e1, e2]

-- ReadWord32
theorem l1Index_all : ∀ c : Fin 256, spec_l1Index.f 40 (c.val : Int) = some (dv (c.val : Int)) := by decide +kernel
theorem l1Index_f (c : Int) (h0 : 0 ≤ c) (h1 : c ≤ 255) (k : Nat) (hk : 40 ≤ k) : spec_l1Index.f k c = some (dv c) := by
  have := l1Index_all ⟨c.toNat, by omega⟩
  simp only [Int.toNat_of_nonneg h0] at this
  exact at_rounds (g := fun k => spec_l1Index.f k c) (fun k => spec_l1Index.mono c k) hk this
theorem rw_both (s : ByteArray) (hs : s.size = 13) : ∀ (d i : Nat) (x : Int) (k : Nat), i + d = 13 → 0 ≤ x → x < lim d → d + 41 < k →
    spec_ReadWord32.l0 k s x (i : Int) = some (rwGo s d x i) ∧ impl_ReadWord32.l0 k s x (s.size : Int) (i : Int) = some (rwGo s d x i) := by
  intro d
  induction d with
  | zero =>
    intro i x k hi hx hl hk
    obtain ⟨k, rfl⟩ : ∃ m, k = m + 1 := ⟨k - 1, by omega⟩
    constructor
    · simp only [spec_ReadWord32.l0]; rw [if_neg (by omega)]; rfl
    · simp only [impl_ReadWord32.l0]; rw [if_neg (by omega)]; rfl
  | succ d ih =>
    intro i x k hi hx hl hk
    obtain ⟨k, rfl⟩ : ∃ m, k = m + 1 := ⟨k - 1, by omega⟩
    obtain ⟨b0, b1⟩ := bt_range s (i : Int)
    obtain ⟨t0, t1⟩ := dv_bounds (bt s (i : Int)) b0 b1
    have hf := l1Index_f (bt s (i : Int)) b0 b1 k (by omega)
    have hg : strings_IndexByte.f alpha (bt s (i : Int)) = some (dv (bt s (i : Int))) := rfl
    unfold alpha at hg
    have e3 : ((i : Int) + 1) = ((i + 1 : Nat) : Int) := by omega
    obtain ⟨m0, m1, m2, m3, m4⟩ := lim_all ⟨d, by omega⟩
    simp only at m0 m1 m2 m3 m4
    constructor
    · simp only [spec_ReadWord32.l0, rwGo]
      rw [if_pos (by omega), if_pos (by omega), if_pos (by omega), hf]
      simp only [Option.bind_some]
      by_cases h1 : dv (bt s (i : Int)) < 0
      · rw [if_pos h1, if_pos h1]
      · have e4 : IntKind.u64.wrap (IntKind.u64.wrap (x * 32) + IntKind.u64.wrap (dv (bt s (i : Int)))) = x * 32 + dv (bt s (i : Int)) := by
          rw [u64w (x * 32) (by omega) (by omega), u64w (dv _) (by omega) (by omega)]
          by_cases hd : d = 12
          · subst hd
            have hx0 : x = 0 := by simp [lim] at hl; omega
            subst hx0
            exact u64w _ (by omega) (by omega)
          · have := m2 (by omega)
            exact u64w _ (by omega) (by omega)
        rw [if_neg h1, if_neg h1, e4, up1 _ (by omega) (by omega), e3]
        by_cases h0 : i = 0
        · subst h0
          rw [if_pos (by omega)]
          by_cases h2 : dv (bt s ((0 : Nat) : Int)) > 15
          · rw [if_pos h2, if_pos ⟨rfl, h2⟩]
          · have hx0 : x = 0 := by
              have : d = 12 := by omega
              subst this; simp [lim] at hl; omega
            have := m3 (by omega)
            rw [if_neg h2, if_neg (by rintro ⟨_, h⟩; exact h2 h)]
            exact (ih _ _ k (by omega) (by omega) (by omega) (by omega)).1
        · have := m2 (by omega)
          rw [if_neg (by omega), if_neg (by rintro ⟨h, _⟩; exact h0 h)]
          exact (ih _ _ k (by omega) (by omega) (by omega) (by omega)).1
    · simp only [impl_ReadWord32.l0, rwGo]
      rw [if_pos (by omega), if_pos (by omega), if_pos (by omega), hg]
      simp only [Option.bind_some]
      by_cases h1 : dv (bt s (i : Int)) < 0
      · rw [if_pos h1, if_pos h1]
      · have e4 : Go.bits .or .u64 (IntKind.u64.wrap (x * 32)) (IntKind.u64.wrap (dv (bt s (i : Int)))) = x * 32 + dv (bt s (i : Int)) := by
          rw [u64w (dv _) (by omega) (by omega)]
          by_cases hd : d = 12
          · subst hd
            have hx0 : x = 0 := by simp [lim] at hl; omega
            subst hx0
            rw [u64w (0 * 32) (by omega) (by omega)]
            exact or5 0 _ (by omega) (by omega) (by omega) (by omega)
          · have := m2 (by omega)
            rw [u64w (x * 32) (by omega) (by omega)]
            exact or5 x _ (by omega) (by omega) (by omega) (by omega)
        rw [if_neg h1, if_neg h1, e4, up1 _ (by omega) (by omega), e3]
        by_cases h0 : i = 0
        · subst h0
          rw [if_pos (by omega)]
          by_cases h2 : dv (bt s ((0 : Nat) : Int)) > 15
          · rw [if_pos h2, if_pos ⟨rfl, h2⟩]
          · have hx0 : x = 0 := by
              have : d = 12 := by omega
              subst this; simp [lim] at hl; omega
            have := m3 (by omega)
            rw [if_neg h2, if_neg (by rintro ⟨_, h⟩; exact h2 h)]
            exact (ih _ _ k (by omega) (by omega) (by omega) (by omega)).2
        · have := m2 (by omega)
          rw [if_neg (by omega), if_neg (by rintro ⟨h, _⟩; exact h0 h)]
          exact (ih _ _ k (by omega) (by omega) (by omega) (by omega)).2
theorem spec_ReadWord32_f (s : ByteArray) (k : Nat) (hk : 60 ≤ k) : spec_ReadWord32.f k s = some (rw32 s) := by
  unfold spec_ReadWord32.f rw32
  by_cases h : s.size = 13
  · rw [if_pos (by omega), if_pos h]
    exact (rw_both s h 13 0 0 k (by omega) (by omega) (by decide) (by omega)).1
  · rw [if_neg (by omega), if_neg h]
theorem impl_ReadWord32_f (s : ByteArray) (k : Nat) (hk : 60 ≤ k) : impl_ReadWord32.f k s = some (rw32 s) := by
  unfold impl_ReadWord32.f rw32
  by_cases h : s.size = 13
  · rw [if_pos (by omega), if_pos h]
    exact (rw_both s h 13 0 0 k (by omega) (by omega) (by decide) (by omega)).2
  · rw [if_neg (by omega), if_neg h]

-- AddrI
def adOk (s : ByteArray) : Bool := decide (15 ≤ s.size) && bt s 13 == 45 && (rw32 (s.extract 0 13)).2 && nmOk (s.extract 14 s.size)
theorem nm_empty (s : ByteArray) (h : s.size = 0) : nmOk s = false := by simp [nmOk, h]
theorem impl_AddressOk_f (s : ByteArray) (k : Nat) (hk : 64 ≤ k) : impl_AddressOk.f k s = some (adOk s) := by
  unfold impl_AddressOk.f adOk
  by_cases h1 : (s.size : Int) < 14
  · rw [if_pos h1]
    have : ¬ 15 ≤ s.size := by omega
    simp [this]
  · rw [if_neg h1, if_pos (by omega)]
    by_cases h2 : bt s 13 = 45
    · rw [if_pos h2, if_pos (by omega), impl_NameOk_f _ k (by omega), impl_ReadWord32_f _ k (by omega)]
      simp only [Option.bind_some]
      by_cases h4 : nmOk (s.extract 14 s.size) = true
      · have e1 : 15 ≤ s.size := by
          rcases Nat.lt_or_ge s.size 15 with h | h
          · have e : s.size = 14 := by omega
            rw [nm_empty _ (by simp [ByteArray.size_extract]; omega)] at h4
            exact absurd h4 (by decide)
          · exact h
        rw [if_pos h4, if_pos (by omega), if_pos (by omega)]; simp [h2, h4, e1]
      · rw [if_neg h4]; simp [h4]
    · rw [if_neg h2]; simp [h2]

-- AddressOk
theorem spec_AddressOk_f (s : ByteArray) (k : Nat) (hk : 64 ≤ k) : spec_AddressOk.f k s = some (adOk s) := by
  obtain ⟨k, rfl⟩ : ∃ m, k = m + 1 := ⟨k - 1, by omega⟩
  unfold spec_AddressOk.f adOk
  simp only [spec_AddressOk.j0]
  by_cases h1 : (s.size : Int) < 15
  · rw [if_pos h1]
    have : ¬ 15 ≤ s.size := by omega
    simp [this]
  · rw [if_neg h1, if_pos (by omega)]
    have e1 : 15 ≤ s.size := by omega
    by_cases h2 : bt s 13 = 45
    · have h3 : (bt s 13 != 45) = false := by simp [h2]
      rw [h3, if_neg (by decide), if_pos (by omega), if_pos (by omega), spec_ReadWord32_f _ k (by omega)]
      simp only [Option.bind_some]
      rw [spec_NameOk_f _ k (by omega)]
      by_cases h4 : (rw32 (s.extract 0 13)).2 = true
      · rw [if_pos h4, if_pos (by omega)]; simp [h2, h4, e1]
      · rw [if_neg h4]; simp [h4]
    · have h3 : (bt s 13 != 45) = true := by simp [h2]
      rw [h3, if_pos rfl]; simp [h2]

-- Word32
theorem spec_Word32_loop (x : Int) (h0 : 0 ≤ x) (h1 : x < 18446744073709551616) : ∀ (n : Nat) (k : Nat) (acc : List Int), n ≤ 13 → acc.length + n ≤ 13 → n < k →
    spec_Word32.l0 k x acc ((n : Int) - 1) = some (strOfNums (acc ++ ds x n)) := by
  intro n
  induction n with
  | zero =>
    intro k acc _ _ hk
    obtain ⟨k, rfl⟩ : ∃ m, k = m + 1 := ⟨k - 1, by omega⟩
    simp only [spec_Word32.l0]
    rw [if_neg (by omega)]
    simp [ds]
  | succ n ih =>
    intro k acc hn ha hk
    obtain ⟨k, rfl⟩ : ∃ m, k = m + 1 := ⟨k - 1, by omega⟩
    have e0 : (((n + 1 : Nat) : Int) - 1) = (n : Int) := by omega
    have e1 : IntKind.u64.wrap (wrap64 (5 * (n : Int))) = 5 * (n : Int) := by rw [w64 _ (by omega) (by omega), u64w _ (by omega) (by omega)]
    have d0 := div_lo x h0 (5 * n)
    have d1 := div_hi x h0 (5 * n)
    have e2 : Go.bits .and .u64 (shr .u64 x (5 * (n : Int))) 31 = x / 2 ^ (5 * n) % 32 := by rw [shr5 x n (by omega), and31 _ d0 (by omega)]
    rw [e0]
    simp only [spec_Word32.l0]
    rw [if_pos (by omega), e1, e2, if_pos (by omega), if_pos (by omega), if_pos (by omega), if_pos (by omega), w64 _ (by omega) (by omega)]
    rw [ih k _ (by omega) (by simp; omega) (by omega)]
    simp [ds, dg, alpha]
theorem spec_Word32_f (x : Int) (h0 : 0 ≤ x) (h1 : x < 18446744073709551616) (k : Nat) (hk : 13 < k) : spec_Word32.f k x = some (word x) := by
  have := spec_Word32_loop x h0 h1 13 k [] (by omega) (by simp) (by omega)
  exact this
theorem impl_Word32_loop (x : Int) (h0 : 0 ≤ x) (h1 : x < 18446744073709551616) : ∀ (d n : Nat) (k : Nat) (b : List Int), n + d = 13 → b.length = 13 → d < k → b.drop (13 - n) = ds x n →
    impl_Word32.l0 k x b 13 (n : Int) = some (word x) := by
  intro d
  induction d with
  | zero =>
    intro n k b hn hb hk hd
    obtain ⟨k, rfl⟩ : ∃ m, k = m + 1 := ⟨k - 1, by omega⟩
    obtain rfl : n = 13 := by omega
    simp only [impl_Word32.l0]
    rw [if_neg (by omega)]
    simp at hd
    rw [hd]; rfl
  | succ d ih =>
    intro n k b hn hb hk hd
    obtain ⟨k, rfl⟩ : ∃ m, k = m + 1 := ⟨k - 1, by omega⟩
    have e1 : wrap64 (5 * (n : Int)) = 5 * (n : Int) := by rw [w64 _ (by omega) (by omega)]
    have d0 := div_lo x h0 (5 * n)
    have d1 := div_hi x h0 (5 * n)
    have e2 : Go.bits .and .u64 (shr .u64 x (5 * (n : Int))) 31 = x / 2 ^ (5 * n) % 32 := by rw [shr5 x n (by omega), and31 _ d0 (by omega)]
    simp only [impl_Word32.l0]
    rw [if_pos (by omega), e1, e2, if_pos (by omega), if_pos (by omega), if_pos (by omega), w64 (12 - (n : Int)) (by omega) (by omega), if_pos (by omega), if_pos (by omega), up1 _ (by omega) (by omega)]
    have e3 : ((n : Int) + 1) = ((n + 1 : Nat) : Int) := by omega
    rw [e3]
    refine ih (n + 1) k _ (by omega) (by simp [hb]) (by omega) ?_
    have e4 : (12 - (n : Int)).toNat = 12 - n := by omega
    have e5 : 13 - (n + 1) = 12 - n := by omega
    rw [e4, e5, List.drop_set, if_neg (by omega), Nat.sub_self, List.drop_eq_getElem_cons (by omega)]
    have e6 : 12 - n + 1 = 13 - n := by omega
    simp only [List.set_cons_zero, e6, hd, ds, dg, alpha]
theorem impl_Word32_f (x : Int) (h0 : 0 ≤ x) (h1 : x < 18446744073709551616) (k : Nat) (hk : 13 < k) : impl_Word32.f k x = some (word x) := by
  unfold impl_Word32.f
  rw [if_pos (by decide)]
  simp only [Option.bind_some]
  exact impl_Word32_loop x h0 h1 13 0 k _ (by omega) (by simp) (by omega) (by simp [ds])

-- Strs
theorem rdStr (l : List ByteArray) (i : Nat) (h : i < l.length) : rdOf ByteArray.empty l (i : Int) = l[i] := by unfold rdOf; simp [List.getD_eq_getElem?_getD, List.getElem?_eq_getElem h]
theorem szStringS_ev (x : List ByteArray) (hx : x.length ≤ 9223372036854775807) (m : Int) (h0 : 0 ≤ m) (h1 : m ≤ 1048576) (ok : ∀ g ∈ x, g.size ≤ 9223372036854775807) : ∃ t, Ev (fun k => laws_szStringS.f k x m) t ∧ (0 ≤ t → t ≤ m ∧ x.length ≤ 1048576) ∧ t ≤ 1048576 := by
  unfold laws_szStringS.f
  rw [w64 _ (by omega) (by omega)]
  by_cases h : m - (x.length : Int) < 0
  · exact ⟨_, Ev.pos h Ev.pure, by omega, by omega⟩
  · have key := downTo x.length (fun i => ∀ a : Int, 0 ≤ a → a ≤ 1048576 → ∃ t, Ev (fun k => laws_szStringS.l0 k x a (i : Int)) t ∧ (0 ≤ t → t ≤ a) ∧ t ≤ 1048576) ?_ ?_ 0 (by omega)
    · obtain ⟨t, a, b, c⟩ := key (m - (x.length : Int)) (by omega) (by omega)
      exact ⟨t, Ev.neg h a, by omega, c⟩
    · intro a a0 a1
      refine ⟨a, Ev.step ?_, by omega, a1⟩
      simp only [laws_szStringS.l0]
      exact Ev.neg (by omega) Ev.pure
    · intro i hi ih a a0 a1
      have hs := ok _ (List.getElem_mem hi)
      have hw : wrap64 (a - ((x[i]).size : Int)) = a - ((x[i]).size : Int) := w64 _ (by omega) (by omega)
      by_cases h2 : a - ((x[i]).size : Int) < 0
      · refine ⟨-1, Ev.step ?_, by omega, by omega⟩
        simp only [laws_szStringS.l0, rdStr x i hi, hw]
        exact Ev.pos (by omega) (Ev.pos (by omega) (Ev.pos h2 Ev.pure))
      · obtain ⟨r, hr, hr2, hr3⟩ := ih (a - ((x[i]).size : Int)) (by omega) (by omega)
        refine ⟨r, Ev.step ?_, by omega, by omega⟩
        simp only [laws_szStringS.l0, rdStr x i hi, hw, upN i (by omega)]
        exact Ev.pos (by omega) (Ev.pos (by omega) (Ev.neg h2 hr))
theorem toStringS_ev (x : List ByteArray) (hx : x.length ≤ 1048576) : Ev (fun k => laws_toStringS.f k x) x := by
  unfold laws_toStringS.f
  refine Ev.pos (by omega) (Ev.pos (by omega) ?_)
  have := setLoop (fun k y i => laws_toStringS.l0 k x y i) x (fun s => s) ?_ ?_ (List.replicate ((x.length : Int)).toNat (⟨#[]⟩ : ByteArray)) (by simp)
  · simpa using this
  · intro i y r hi hy h
    refine Ev.step ?_
    simp only [laws_toStringS.l0, rdStr x i hi, upN i (by omega)]
    exact Ev.pos (by omega) (Ev.pos (by omega) (Ev.pos (by omega) h))
  · intro y hy
    refine Ev.step ?_
    simp only [laws_toStringS.l0]
    exact Ev.neg (by omega) Ev.pure
theorem eqStringS_ev (x : List ByteArray) (hx : x.length ≤ 1048576) : Ev (fun k => laws_eqStringS.f k x x) true := by
  unfold laws_eqStringS.f
  refine Ev.pos rfl ?_
  refine countLoop (fun k i => laws_eqStringS.l0 k x x i) x.length true ?_ ?_
  · intro i hi h
    refine Ev.step ?_
    simp only [laws_eqStringS.l0, upN i (by omega)]
    exact Ev.pos (by omega) (Ev.pos (by omega) (Ev.pos (by omega) (Ev.pos trivial h)))
  · refine Ev.step ?_
    simp only [laws_eqStringS.l0]
    exact Ev.neg (by omega) Ev.pure

-- Decimal
/-- A number's decimal numeral. -/
def dec (n : Nat) : ByteArray := ⟨(Lib.decDigits n).toArray⟩
theorem dec_size_eq (n : Nat) : (dec n).size = (Lib.decDigits n).length := by
  show (Lib.decDigits n).toArray.size = _
  simp
theorem dec_small (n : Nat) (h : n < 10) : dec n = strOfNums [((48 + n : Nat) : Int)] := by
  unfold dec
  rw [Lib.decDigits, dif_pos h]
  rfl
theorem ba_app (a b : List UInt8) : (⟨(a ++ b).toArray⟩ : ByteArray) = (⟨a.toArray⟩ : ByteArray) ++ (⟨b.toArray⟩ : ByteArray) := by
  apply ByteArray.ext
  rw [ByteArray.data_append]
  simp
theorem dec_big (n : Nat) (h : ¬ n < 10) : dec n = dec (n / 10) ++ strOfNums [((48 + n % 10 : Nat) : Int)] := by
  unfold dec
  rw [Lib.decDigits, dif_neg h, ba_app]
  rfl
theorem dec_size : ∀ (d n : Nat), n < 10 ^ (d + 1) → (dec n).size ≤ d + 1 := by
  intro d
  induction d with
  | zero =>
    intro n h
    rw [dec_small n (by omega), strOfNums_size]
    simp
  | succ d ih =>
    intro n h
    by_cases c : n < 10
    · rw [dec_small n c, strOfNums_size]
      simp
    · have := ih (n / 10) (by rw [Nat.pow_succ] at h; omega)
      rw [dec_big n c, ByteArray.size_append, strOfNums_size]
      simp only [List.length_singleton]
      omega
theorem ba_assoc (a b c : ByteArray) : a ++ b ++ c = a ++ (b ++ c) := by
  apply ByteArray.ext
  simp only [ByteArray.data_append, Array.append_assoc]
theorem ba_nil (a : ByteArray) : a ++ (⟨#[]⟩ : ByteArray) = a := by
  apply ByteArray.ext
  simp only [ByteArray.data_append, Array.append_empty]
theorem l2Int_run : ∀ (d n : Nat), n < 10 ^ (d + 1) → d ≤ 12 → ∀ s : ByteArray, s.size + d ≤ 100 → Ev (fun k => spec_l2Int.l0 k (n : Int) s) (dec n ++ s) := by
  intro d
  induction d with
  | zero =>
    intro n h _ s hs
    refine Ev.step ?_
    simp only [spec_l2Int.l0]
    refine Ev.neg (by omega) (Ev.cons rfl ?_)
    have e : (wrap64 (48 + (n : Int))) % 256 = ((48 + n : Nat) : Int) := by rw [w64 _ (by omega) (by omega)]; omega
    rw [e, dec_small n (by omega)]
    exact Ev.pos (by rw [strOfNums_size]; simp only [List.length_singleton]; omega) Ev.pure
  | succ d ih =>
    intro n h hd s hs
    by_cases c : n < 10
    · refine Ev.step ?_
      simp only [spec_l2Int.l0]
      refine Ev.neg (by omega) (Ev.cons rfl ?_)
      have e : (wrap64 (48 + (n : Int))) % 256 = ((48 + n : Nat) : Int) := by rw [w64 _ (by omega) (by omega)]; omega
      rw [e, dec_small n c]
      exact Ev.pos (by rw [strOfNums_size]; simp only [List.length_singleton]; omega) Ev.pure
    · refine Ev.step ?_
      simp only [spec_l2Int.l0]
      refine Ev.pos (by omega) (Ev.cons rfl ?_)
      have hp : n < 10 ^ 14 := Nat.lt_of_lt_of_le h (Nat.pow_le_pow_right (by decide) (by omega))
      have hp2 : n < 100000000000000 := by simpa using hp
      have e1 : Int.tmod (n : Int) 10 = ((n % 10 : Nat) : Int) := by rw [Int.tmod_eq_emod_of_nonneg (by omega)]; omega
      have e : (wrap64 (48 + Int.tmod (n : Int) 10)) % 256 = ((48 + n % 10 : Nat) : Int) := by rw [e1, w64 _ (by omega) (by omega)]; omega
      have e2 : wrap64 (Int.tdiv (n : Int) 10) = ((n / 10 : Nat) : Int) := by rw [Int.tdiv_eq_ediv_of_nonneg (by omega), w64 _ (by omega) (by omega)]; omega
      rw [e, e2, dec_big n c, ba_assoc]
      exact Ev.pos (by rw [strOfNums_size]; simp only [List.length_singleton]; omega) (ih (n / 10) (by rw [Nat.pow_succ] at h; omega) (by omega) _ (by rw [ByteArray.size_append, strOfNums_size]; simp only [List.length_singleton]; omega))
theorem l2Int_ev (n : Nat) (h : n ≤ 1000000) : Ev (fun k => spec_l2Int.f k (n : Int)) (dec n) := by
  unfold spec_l2Int.f
  have := l2Int_run 6 n (by omega) (by omega) (⟨#[]⟩ : ByteArray) (by show 0 + 6 ≤ 100; omega)
  rw [ba_nil] at this
  exact this
theorem FormatInt_dec (n : Nat) (h : n ≤ 1000000) : strconv_FormatInt.f (n : Int) 10 = some (dec n) := by
  unfold strconv_FormatInt.f
  rw [if_pos ⟨rfl, by omega, by omega⟩]
  unfold dec Lib.itoa
  rw [if_neg (by omega)]
  simp

theorem sAd (s : ByteArray) : Ev (fun k => spec_AddressOk.f k s) (adOk s) := Ev.of 64 (fun k hk => spec_AddressOk_f s k hk)
theorem iAd (s : ByteArray) : Ev (fun k => impl_AddressOk.f k s) (adOk s) := Ev.of 64 (fun k hk => impl_AddressOk_f s k hk)
theorem sNm (s : ByteArray) : Ev (fun k => spec_NameOk.f k s) (nmOk s) := Ev.of 63 (fun k hk => spec_NameOk_f s k hk)
theorem iNm (s : ByteArray) : Ev (fun k => impl_NameOk.f k s) (nmOk s) := Ev.of 63 (fun k hk => impl_NameOk_f s k hk)
theorem sRw (s : ByteArray) : Ev (fun k => spec_ReadWord32.f k s) (rw32 s) := Ev.of 60 (fun k hk => spec_ReadWord32_f s k hk)
theorem iRw (s : ByteArray) : Ev (fun k => impl_ReadWord32.f k s) (rw32 s) := Ev.of 60 (fun k hk => impl_ReadWord32_f s k hk)
def ln (l : List ByteArray) (i : Nat) : ByteArray := l.getD i ByteArray.empty
theorem rdN (l : List ByteArray) (i : Nat) : rdOf ByteArray.empty l (i : Int) = ln l i := rfl
theorem adOk_size (s : ByteArray) (h : adOk s = true) : s.size ≤ 74 := by
  simp only [adOk, nmOk, Bool.and_eq_true, decide_eq_true_eq, ByteArray.size_extract] at h
  omega
/-- Row l is rising from place i on. -/
def rise (l : List ByteArray) (i : Nat) : Prop := ∀ j, i ≤ j → j < l.length → 0 < j → Op.bytesLess (ln l (j - 1)).toList (ln l j).toList = true
def allAd (l : List ByteArray) (i : Nat) : Prop := ∀ j, i ≤ j → j < l.length → adOk (ln l j) = true
theorem rise_step {l : List ByteArray} {i : Nat} (hi : i < l.length) : rise l i ↔ (0 < i → Op.bytesLess (ln l (i - 1)).toList (ln l i).toList = true) ∧ rise l (i + 1) := by
  constructor
  · exact fun h => ⟨fun h0 => h i (Nat.le_refl _) hi h0, fun j h1 h2 h3 => h j (by omega) h2 h3⟩
  · rintro ⟨h1, h2⟩ j h3 h4 h5
    rcases Nat.eq_or_lt_of_le h3 with rfl | h
    · exact h1 h5
    · exact h2 j h h4 h5
theorem all_step {l : List ByteArray} {i : Nat} (hi : i < l.length) : allAd l i ↔ adOk (ln l i) = true ∧ allAd l (i + 1) := by
  constructor
  · exact fun h => ⟨h i (Nat.le_refl _) hi, fun j h1 h2 => h j (by omega) h2⟩
  · rintro ⟨h1, h2⟩ j h3 h4
    rcases Nat.eq_or_lt_of_le h3 with rfl | h
    · exact h1
    · exact h2 j h h4
theorem sAdr (l : List ByteArray) (hl : l.length ≤ 300) : ∃ b : Bool, Ev (fun k => spec_l11Addresses.f k l) b ∧ (b = true ↔ allAd l 0 ∧ rise l 0) := by
  unfold spec_l11Addresses.f
  refine downTo l.length (fun i => ∃ b : Bool, Ev (fun k => spec_l11Addresses.l0 k l (i : Int)) b ∧ (b = true ↔ allAd l i ∧ rise l i)) ?_ ?_ 0 (by omega)
  · refine ⟨true, Ev.step ?_, by simp only [true_iff]; exact ⟨fun j h1 h2 => by omega, fun j h1 h2 => by omega⟩⟩
    simp only [spec_l11Addresses.l0]
    rw [show decide ((l.length : Int) ≤ 2000) = true from decide_eq_true (by omega)]
    exact Ev.neg (by omega) Ev.pure
  · intro i hi ⟨b, hb, hb2⟩
    by_cases c : adOk (ln l i) = true
    · by_cases i0 : 0 < i
      · by_cases c2 : Op.bytesLess (ln l (i - 1)).toList (ln l i).toList = true
        · refine ⟨b, Ev.step ?_, by rw [hb2, all_step hi, rise_step hi]; exact ⟨fun h => ⟨⟨c, h.1⟩, fun _ => c2, h.2⟩, fun h => ⟨h.1.2, h.2.2⟩⟩⟩
          simp only [spec_l11Addresses.l0, rdN, upN i (by omega), dnN i (by omega) i0]
          exact Ev.pos (by omega) (Ev.pos (by omega) (Ev.bind (sAd _) (Ev.pos c (Ev.pos (by omega) (Ev.pos (by omega) (Ev.pos (by omega) (Ev.pos c2 hb)))))))
        · refine ⟨false, Ev.step ?_, ⟨fun h => (by cases h), fun h => absurd (((rise_step hi).1 h.2).1 i0) c2⟩⟩
          simp only [spec_l11Addresses.l0, rdN, upN i (by omega), dnN i (by omega) i0]
          exact Ev.pos (by omega) (Ev.pos (by omega) (Ev.bind (sAd _) (Ev.pos c (Ev.pos (by omega) (Ev.pos (by omega) (Ev.pos (by omega) (Ev.neg c2 Ev.pure)))))))
      · refine ⟨b, Ev.step ?_, by rw [hb2, all_step hi, rise_step hi]; exact ⟨fun h => ⟨⟨c, h.1⟩, fun h0 => absurd h0 i0, h.2⟩, fun h => ⟨h.1.2, h.2.2⟩⟩⟩
        simp only [spec_l11Addresses.l0, rdN, upN i (by omega)]
        exact Ev.pos (by omega) (Ev.pos (by omega) (Ev.bind (sAd _) (Ev.pos c (Ev.neg (by omega) hb))))
    · refine ⟨false, Ev.step ?_, ⟨fun h => (by cases h), fun h => absurd ((all_step hi).1 h.1).1 c⟩⟩
      simp only [spec_l11Addresses.l0, rdN]
      exact Ev.pos (by omega) (Ev.pos (by omega) (Ev.bind (sAd _) (Ev.neg c Ev.pure)))
theorem iRis (l : List ByteArray) (hl : l.length ≤ 300) : ∃ b : Bool, Ev (fun k => impl_rising_hs.f k l) b ∧ (b = true ↔ rise l 0) := by
  unfold impl_rising_hs.f
  have main := downTo (max l.length 1) (fun i => 1 ≤ i → ∃ b : Bool, Ev (fun k => impl_rising_hs.l0 k l (i : Int)) b ∧ (b = true ↔ rise l i)) ?_ ?_ 1 (by omega) (by omega)
  · obtain ⟨b, h1, h2⟩ := main
    refine ⟨b, h1, h2.trans ⟨fun h j _ h4 h5 => h j (by omega) h4 h5, fun h j _ h4 h5 => h j (by omega) h4 h5⟩⟩
  · intro _
    refine ⟨true, Ev.step ?_, by simp only [true_iff]; exact fun j h1 h2 => by omega⟩
    simp only [impl_rising_hs.l0]
    exact Ev.neg (by omega) Ev.pure
  · intro i hi ih i1
    obtain ⟨b, hb, hb2⟩ := ih (by omega)
    have hi' : i < l.length := by omega
    by_cases c2 : Op.bytesLess (ln l (i - 1)).toList (ln l i).toList = true
    · refine ⟨b, Ev.step ?_, by rw [hb2, rise_step hi']; exact ⟨fun h => ⟨fun _ => c2, h⟩, fun h => h.2⟩⟩
      simp only [impl_rising_hs.l0, rdN, upN i (by omega), dnN i (by omega) i1]
      exact Ev.pos (by omega) (Ev.pos (by omega) (Ev.pos (by omega) (Ev.pos (by omega) (Ev.pos c2 hb))))
    · refine ⟨false, Ev.step ?_, ⟨fun h => (by cases h), fun h => absurd (((rise_step hi').1 h).1 i1) c2⟩⟩
      simp only [impl_rising_hs.l0, rdN, upN i (by omega), dnN i (by omega) i1]
      exact Ev.pos (by omega) (Ev.pos (by omega) (Ev.pos (by omega) (Ev.pos (by omega) (Ev.neg c2 Ev.pure))))
set_option linter.unusedSimpArgs false
theorem sz4 : (⟨#[114, 101, 102, 32]⟩ : ByteArray).size = 4 := rfl
theorem sz1 : (⟨#[10]⟩ : ByteArray).size = 1 := rfl
theorem sz5a : (⟨#[112, 97, 116, 104, 32]⟩ : ByteArray).size = 5 := rfl
theorem sz5b : (⟨#[10, 115, 117, 109, 32]⟩ : ByteArray).size = 5 := rfl
theorem sz6 : (⟨#[10, 115, 105, 122, 101, 32]⟩ : ByteArray).size = 6 := rfl
theorem sz4k : (⟨#[107, 101, 121, 32]⟩ : ByteArray).size = 4 := rfl
theorem sz5s : (⟨#[10, 115, 105, 103, 32]⟩ : ByteArray).size = 5 := rfl
/-- The lines of the references, by both. -/
theorem refs_ev (l : List ByteArray) (hl : l.length ≤ 300) (ha : allAd l 0) (p s : ByteArray) (z : Int) (y : ByteArray) (g : Int) : ∀ i, i ≤ l.length → ∀ x : ByteArray, x.size + 79 * (l.length - i) ≤ 100000 →
    ∃ r, Ev (fun k => spec_l16Head.l0 k x (i : Int) p s z l y g) r ∧ Ev (fun k => impl_manifestHead.l0 k x l (l.length : Int) (i : Int)) r ∧ r.size ≤ 100000 := by
  refine downTo l.length (fun i => ∀ x : ByteArray, x.size + 79 * (l.length - i) ≤ 100000 → ∃ r, Ev (fun k => spec_l16Head.l0 k x (i : Int) p s z l y g) r ∧ Ev (fun k => impl_manifestHead.l0 k x l (l.length : Int) (i : Int)) r ∧ r.size ≤ 100000) ?_ ?_
  · intro x hx
    refine ⟨x, Ev.step ?_, Ev.step ?_, by omega⟩
    · simp only [spec_l16Head.l0]
      exact Ev.neg (by omega) Ev.pure
    · simp only [impl_manifestHead.l0]
      exact Ev.neg (by omega) Ev.pure
  · intro i hi ih x hx
    have h74 := adOk_size _ (ha i (Nat.zero_le _) hi)
    obtain ⟨r, r1, r2, r3⟩ := ih (x ++ (((⟨#[114, 101, 102, 32]⟩ : ByteArray) ++ (ln l i)) ++ (⟨#[10]⟩ : ByteArray))) (by simp only [ByteArray.size_append, sz4, sz1]; omega)
    refine ⟨r, Ev.step ?_, Ev.step ?_, r3⟩
    · simp only [spec_l16Head.l0, rdN, upN i (by omega)]
      exact Ev.pos (by omega) (Ev.pos (by omega) (Ev.pos (by omega) (Ev.pos (by simp only [ByteArray.size_append, sz4, sz1]; omega) (Ev.pos (by simp only [ByteArray.size_append, sz4, sz1]; omega) r1))))
    · simp only [impl_manifestHead.l0, rdN, upN i (by omega)]
      exact Ev.pos (by omega) (Ev.pos (by omega) (Ev.pos (by omega) (Ev.pos (by omega) (Ev.pos (by simp only [ByteArray.size_append, sz4, sz1]; omega) (Ev.pos (by simp only [ByteArray.size_append, sz4, sz1]; omega) r2)))))
theorem head_ev (p s : ByteArray) (z : Nat) (l : List ByteArray) (y : ByteArray) (g : Int) (hl : l.length ≤ 300) (ha : allAd l 0) (hp : p.size ≤ 74) (hs : s.size = 13) (hz : z ≤ 1000000) :
    ∃ r, Ev (fun k => spec_l16Head.f k p s (z : Int) l y g) r ∧ Ev (fun k => impl_manifestHead.f k p s (z : Int) l y g) r ∧ r.size ≤ 100000 := by
  have hd := dec_size 6 z (by omega)
  obtain ⟨r, r1, r2, r3⟩ := refs_ev l hl ha p s (z : Int) y g 0 (by omega) (((((((⟨#[112, 97, 116, 104, 32]⟩ : ByteArray) ++ p) ++ (⟨#[10, 115, 117, 109, 32]⟩ : ByteArray)) ++ s) ++ (⟨#[10, 115, 105, 122, 101, 32]⟩ : ByteArray)) ++ (dec z)) ++ (⟨#[10]⟩ : ByteArray)) (by simp only [ByteArray.size_append, sz5a, sz5b, sz6, sz1]; omega)
  refine ⟨r, ?_, ?_, r3⟩
  · unfold spec_l16Head.f
    exact Ev.pos (by omega) (Ev.pos (by simp only [ByteArray.size_append, sz5a, sz5b, sz6, sz1]; omega) (Ev.pos (by simp only [ByteArray.size_append, sz5a, sz5b, sz6, sz1]; omega) (Ev.pos (by simp only [ByteArray.size_append, sz5a, sz5b, sz6, sz1]; omega) (Ev.bind (l2Int_ev z hz) (Ev.pos (by simp only [ByteArray.size_append, sz5a, sz5b, sz6, sz1]; omega) (Ev.pos (by simp only [ByteArray.size_append, sz5a, sz5b, sz6, sz1]; omega) r1))))))
  · unfold impl_manifestHead.f
    exact Ev.pos (by omega) (Ev.pos (by simp only [ByteArray.size_append, sz5a, sz5b, sz6, sz1]; omega) (Ev.pos (by simp only [ByteArray.size_append, sz5a, sz5b, sz6, sz1]; omega) (Ev.pos (by simp only [ByteArray.size_append, sz5a, sz5b, sz6, sz1]; omega) (Ev.cons (FormatInt_dec z hz) (Ev.pos (by simp only [ByteArray.size_append, sz5a, sz5b, sz6, sz1]; omega) (Ev.pos (by simp only [ByteArray.size_append, sz5a, sz5b, sz6, sz1]; omega) r2))))))
def fin (t y : ByteArray) (g : Int) : ByteArray := (((((t ++ (⟨#[107, 101, 121, 32]⟩ : ByteArray)) ++ y) ++ (⟨#[10, 115, 105, 103, 32]⟩ : ByteArray)) ++ word g) ++ (⟨#[10]⟩ : ByteArray))
def emp : ByteArray := ⟨#[]⟩
theorem iLoop (p s : ByteArray) (z : Int) (l : List ByteArray) (y : ByteArray) (g : Int) (hl : l.length ≤ 300) (R : ByteArray) (hR : allAd l 0 → Ev (fun k => impl_ManifestText.l0 k l (l.length : Int) (l.length : Int) p s z l y g) R) :
    (allAd l 0 → Ev (fun k => impl_ManifestText.l0 k l (l.length : Int) 0 p s z l y g) R) ∧ (¬ allAd l 0 → Ev (fun k => impl_ManifestText.l0 k l (l.length : Int) 0 p s z l y g) emp) := by
  have key := downTo l.length (fun i => (allAd l 0 → Ev (fun k => impl_ManifestText.l0 k l (l.length : Int) (i : Int) p s z l y g) R) ∧ (¬ allAd l i → Ev (fun k => impl_ManifestText.l0 k l (l.length : Int) (i : Int) p s z l y g) emp)) ?_ ?_ 0 (by omega)
  · exact key
  · exact ⟨hR, fun h => absurd (fun j h1 h2 => by omega) h⟩
  · intro i hi ih
    constructor
    · intro h
      refine Ev.step ?_
      simp only [impl_ManifestText.l0, rdN, upN i (by omega)]
      exact Ev.pos (by omega) (Ev.pos (by omega) (Ev.pos (by omega) (Ev.bind (iAd _) (Ev.pos (h i (by omega) hi) (ih.1 h)))))
    · intro h
      refine Ev.step ?_
      simp only [impl_ManifestText.l0, rdN, upN i (by omega)]
      by_cases c : adOk (ln l i) = true
      · exact Ev.pos (by omega) (Ev.pos (by omega) (Ev.pos (by omega) (Ev.bind (iAd _) (Ev.pos c (ih.2 (fun h2 => h ((all_step hi).2 ⟨c, h2⟩)))))))
      · exact Ev.pos (by omega) (Ev.pos (by omega) (Ev.pos (by omega) (Ev.bind (iAd _) (Ev.neg c Ev.pure))))
theorem both_ev (p s : ByteArray) (z : Int) (l : List ByteArray) (y : ByteArray) (g : Int) (hg : 0 ≤ g ∧ g < 18446744073709551616) : ∃ r, Ev (fun k => spec_ManifestText.f k p s z l y g) r ∧ Ev (fun k => impl_ManifestText.f k p s z l y g) r := by
  have bad (k2 : Ev (fun k => impl_ManifestText.f k p s z l y g) emp) (h : Ev (fun k => spec_l16Ok.f k p s z l y g) false) : ∃ r, Ev (fun k => spec_ManifestText.f k p s z l y g) r ∧ Ev (fun k => impl_ManifestText.f k p s z l y g) r := by
    refine ⟨emp, ?_, k2⟩
    unfold spec_ManifestText.f
    exact Ev.bind h (Ev.neg (by simp) Ev.pure)
  have j0 : Ev (fun k => impl_ManifestText.j0 k true p s z l y g) emp := by
    refine Ev.step ?_
    simp only [impl_ManifestText.j0]
    exact Ev.pos trivial Ev.pure
  by_cases c1 : adOk p = true
  rotate_left
  · refine bad ?_ ?_
    · unfold impl_ManifestText.f
      exact Ev.bind (iRw s) (Ev.bind (iAd p) (Ev.neg c1 j0))
    · unfold spec_l16Ok.f
      exact Ev.bind (sRw s) (Ev.bind (sAd p) (Ev.neg c1 Ev.pure))
  by_cases c2 : (rw32 s).2 = true
  rotate_left
  · refine bad ?_ ?_
    · unfold impl_ManifestText.f
      exact Ev.bind (iRw s) (Ev.bind (iAd p) (Ev.pos c1 (Ev.neg c2 j0)))
    · unfold spec_l16Ok.f
      exact Ev.bind (sRw s) (Ev.bind (sAd p) (Ev.pos c1 (Ev.neg c2 Ev.pure)))
  by_cases c3 : z < 0
  · refine bad ?_ ?_
    · unfold impl_ManifestText.f
      exact Ev.bind (iRw s) (Ev.bind (iAd p) (Ev.pos c1 (Ev.pos c2 (Ev.pos c3 j0))))
    · unfold spec_l16Ok.f
      exact Ev.bind (sRw s) (Ev.bind (sAd p) (Ev.pos c1 (Ev.pos c2 (Ev.neg (by omega) Ev.pure))))
  by_cases c4 : z > 1000000
  · refine bad ?_ ?_
    · unfold impl_ManifestText.f
      exact Ev.bind (iRw s) (Ev.bind (iAd p) (Ev.pos c1 (Ev.pos c2 (Ev.neg c3 (Ev.pos c4 j0)))))
    · unfold spec_l16Ok.f
      exact Ev.bind (sRw s) (Ev.bind (sAd p) (Ev.pos c1 (Ev.pos c2 (Ev.pos (by omega) (Ev.neg (by omega) Ev.pure)))))
  by_cases c5 : (l.length : Int) > 300
  · refine bad ?_ ?_
    · unfold impl_ManifestText.f
      exact Ev.bind (iRw s) (Ev.bind (iAd p) (Ev.pos c1 (Ev.pos c2 (Ev.neg c3 (Ev.neg c4 (Ev.pos c5 j0))))))
    · unfold spec_l16Ok.f
      exact Ev.bind (sRw s) (Ev.bind (sAd p) (Ev.pos c1 (Ev.pos c2 (Ev.pos (by omega) (Ev.pos (by omega) (Ev.neg (by omega) Ev.pure))))))
  obtain ⟨b1, hb1, hb2⟩ := sAdr l (by omega)
  obtain ⟨b3, hb3, hb4⟩ := iRis l (by omega)
  have sOk (b : Bool) (h : b1 = true → b = nmOk y) (h2 : b1 = false → b = false) : Ev (fun k => spec_l16Ok.f k p s z l y g) b := by
    unfold spec_l16Ok.f
    refine Ev.bind (sRw s) (Ev.bind (sAd p) (Ev.pos c1 (Ev.pos c2 (Ev.pos (by omega) (Ev.pos (by omega) (Ev.pos (by omega) (Ev.bind hb1 ?_)))))))
    cases b1 with
    | true => rw [h rfl]; exact Ev.pos rfl (Ev.bind (sNm y) Ev.pure)
    | false => rw [h2 rfl]; exact Ev.neg (by simp) Ev.pure
  have iOk (r : ByteArray) (h : b3 = true → Ev (fun k => impl_ManifestText.j0 k (!nmOk y) p s z l y g) r) (h2 : b3 = false → r = emp) : Ev (fun k => impl_ManifestText.f k p s z l y g) r := by
    unfold impl_ManifestText.f
    refine Ev.bind (iRw s) (Ev.bind (iAd p) (Ev.pos c1 (Ev.pos c2 (Ev.neg c3 (Ev.neg c4 (Ev.neg c5 (Ev.bind hb3 ?_)))))))
    cases b3 with
    | true => exact Ev.pos rfl (Ev.bind (iNm y) (h rfl))
    | false => rw [h2 rfl]; exact Ev.neg (by simp) j0
  by_cases c6 : rise l 0
  rotate_left
  · have e1 : b1 = false := by rw [Bool.eq_false_iff]; exact fun h => c6 (hb2.1 h).2
    have e3 : b3 = false := by rw [Bool.eq_false_iff]; exact fun h => c6 (hb4.1 h)
    exact bad (iOk emp (fun h => by rw [e3] at h; cases h) (fun _ => rfl)) (sOk false (fun h => by rw [e1] at h; cases h) (fun _ => rfl))
  have e3 : b3 = true := hb4.2 c6
  by_cases c7 : nmOk y = true
  rotate_left
  · have e7 : nmOk y = false := by simpa using c7
    refine bad (iOk emp (fun _ => ?_) (fun _ => rfl)) (sOk false (fun _ => e7.symm) (fun _ => rfl))
    rw [e7]
    exact j0
  have step (r : ByteArray) (h : Ev (fun k => impl_ManifestText.l0 k l (l.length : Int) 0 p s z l y g) r) : Ev (fun k => impl_ManifestText.f k p s z l y g) r := by
    refine iOk r (fun _ => ?_) (fun h => by rw [e3] at h; cases h)
    rw [c7]
    refine Ev.step ?_
    simp only [impl_ManifestText.j0]
    exact Ev.neg (by simp) h
  by_cases c8 : allAd l 0
  rotate_left
  · have e1 : b1 = false := by rw [Bool.eq_false_iff]; exact fun h => c8 (hb2.1 h).1
    exact bad (step emp ((iLoop p s z l y g (by omega) emp (fun h => absurd h c8)).2 c8)) (sOk false (fun h => by rw [e1] at h; cases h) (fun _ => rfl))
  have e1 : b1 = true := hb2.2 ⟨c8, c6⟩
  have hs : s.size = 13 := by
    unfold rw32 at c2
    by_cases q : s.size = 13
    · exact q
    · rw [if_neg q] at c2
      cases c2
  have hy : y.size ≤ 60 := by
    simp only [nmOk, Bool.and_eq_true, decide_eq_true_eq] at c7
    omega
  obtain ⟨zn, rfl⟩ : ∃ n : Nat, z = (n : Int) := ⟨z.toNat, by omega⟩
  obtain ⟨t, t1, t2, t3⟩ := head_ev p s zn l y g (by omega) c8 (adOk_size p c1) hs (by omega)
  have hw := word_size g
  refine ⟨fin t y g, ?_, step _ ((iLoop p s (zn : Int) l y g (by omega) (fin t y g) (fun _ => ?_)).1 c8)⟩
  · unfold spec_ManifestText.f
    refine Ev.bind (sOk true (fun _ => c7.symm) (fun h => by rw [e1] at h; cases h)) (Ev.pos rfl (Ev.bind t1 (Ev.pos (by omega) (Ev.pos (by simp only [ByteArray.size_append, sz4k]; omega) (Ev.pos (by simp only [ByteArray.size_append, sz4k]; omega) (Ev.bind (Ev.of 14 (fun k hk => spec_Word32_f g hg.1 hg.2 k hk)) (Ev.pos (by simp only [ByteArray.size_append, sz4k, sz5s]; omega) (Ev.pos (by simp only [ByteArray.size_append, sz4k, sz5s]; omega) Ev.pure))))))))
  · refine Ev.step ?_
    simp only [impl_ManifestText.l0]
    exact Ev.neg (by omega) (Ev.bind t2 (Ev.pos (by omega) (Ev.pos (by simp only [ByteArray.size_append, sz4k]; omega) (Ev.pos (by simp only [ByteArray.size_append, sz4k]; omega) (Ev.bind (Ev.of 14 (fun k hk => impl_Word32_f g hg.1 hg.2 k hk)) (Ev.pos (by simp only [ByteArray.size_append, sz4k, sz5s]; omega) (Ev.pos (by simp only [ByteArray.size_append, sz4k, sz5s]; omega) Ev.pure)))))))
theorem FnExactManifestText : laws_FnExactManifestText.Pure := by
  intro p s z l y g hp hs _ hl hy hg
  have mx : maxLen = 9223372036854775807 := by decide
  rw [mx] at hp hs hl hy
  have hg2 := u64_wf g hg
  refine Ev.at ?_
  unfold laws_FnExactManifestText.f
  have sz : ∃ t, Ev (fun k => laws_szManifest.f k p s z l y g 1048576) t ∧ (0 ≤ t → l.length ≤ 1048576) := by
    unfold laws_szManifest.f
    rw [w64 (1048576 - (p.size : Int)) (by omega) (by omega)]
    by_cases a1 : (1048576 - (p.size : Int)) < 0
    · exact ⟨_, Ev.pos a1 Ev.pure, by omega⟩
    rw [w64 (1048576 - (p.size : Int) - (s.size : Int)) (by omega) (by omega)]
    by_cases a2 : (1048576 - (p.size : Int) - (s.size : Int)) < 0
    · exact ⟨_, Ev.neg a1 (Ev.pos a2 Ev.pure), by omega⟩
    obtain ⟨t, t1, t2, t3⟩ := szStringS_ev l hl.1 (1048576 - (p.size : Int) - (s.size : Int)) (by omega) (by omega) hl.2
    by_cases a3 : t < 0
    · exact ⟨_, Ev.neg a1 (Ev.neg a2 (Ev.bind t1 (Ev.pos a3 Ev.pure))), by omega⟩
    have t4 := (t2 (by omega)).2
    have e : wrap64 (t - (y.size : Int)) = t - (y.size : Int) := w64 _ (by omega) (by omega)
    by_cases a4 : t - (y.size : Int) < 0
    · exact ⟨_, Ev.neg a1 (Ev.neg a2 (Ev.bind t1 (Ev.neg a3 (Ev.pos (by rw [e]; exact a4) Ev.pure)))), by omega⟩
    · exact ⟨_, Ev.neg a1 (Ev.neg a2 (Ev.bind t1 (Ev.neg a3 (Ev.neg (by rw [e]; exact a4) Ev.pure)))), fun _ => t4⟩
  obtain ⟨t, t1, t2⟩ := sz
  refine Ev.bind t1 ?_
  by_cases h0 : t < 0
  · exact Ev.pos h0 Ev.pure
  have hl2 := t2 (by omega)
  have hc : Ev (fun k => laws_toManifest.f k p s z l y g) (p, s, z, l, y, g) := by
    unfold laws_toManifest.f
    exact Ev.bind (toStringS_ev l hl2) Ev.pure
  have he : Ev (fun k => laws_eqManifest.f k p s z l y g p s z l y g) true := by
    unfold laws_eqManifest.f
    exact Ev.pos rfl (Ev.pos rfl (Ev.pos rfl (Ev.bind (eqStringS_ev l hl2) (Ev.pos rfl (Ev.pos rfl (Ev.pos rfl Ev.pure))))))
  obtain ⟨r, r1, r2⟩ := both_ev p s z l y g hg2
  exact Ev.neg h0 (Ev.bind hc (Ev.bind r1 (Ev.bind hc (Ev.bind r2 (Ev.pos rfl (Ev.bind hc (Ev.bind he (Ev.pos rfl Ev.pure))))))))

end Go.Proofs.YtklinldidfdnjaaDoor.Pure
