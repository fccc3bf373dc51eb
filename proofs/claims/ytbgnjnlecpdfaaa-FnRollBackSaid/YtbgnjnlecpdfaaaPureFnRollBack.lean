/- The pure statement of FnRollBack: what a switch has switched a rollback takes back, and pruning keeps it. -/
import Derived.Test.YtbgnjnlecpdfaaaPFnRollBackx0
import Derived.Test.YtbgnjnlecpdfaaaPFnRollBackx1
import Derived.Test.YtbgnjnlecpdfaaaPFnRollBackx10
import Derived.Test.YtbgnjnlecpdfaaaPFnRollBackx11
import Derived.Test.YtbgnjnlecpdfaaaPFnRollBackx12
import Derived.Test.YtbgnjnlecpdfaaaPFnRollBackx13
import Derived.Test.YtbgnjnlecpdfaaaPFnRollBackx14
import Derived.Test.YtbgnjnlecpdfaaaPFnRollBackx15
import Derived.Test.YtbgnjnlecpdfaaaPFnRollBackx16
import Derived.Test.YtbgnjnlecpdfaaaPFnRollBackx2
import Derived.Test.YtbgnjnlecpdfaaaPFnRollBackx3
import Derived.Test.YtbgnjnlecpdfaaaPFnRollBackx4
import Derived.Test.YtbgnjnlecpdfaaaPFnRollBackx5
import Derived.Test.YtbgnjnlecpdfaaaPFnRollBackx6
import Derived.Test.YtbgnjnlecpdfaaaPFnRollBackx7
import Derived.Test.YtbgnjnlecpdfaaaPFnRollBackx8
import Derived.Test.YtbgnjnlecpdfaaaPFnRollBackx9
import Derived.Laws.BitsLemmas
import Derived.Laws.Bits64b
import Derived.Lib.Bytealg
namespace Go.Proofs.Ytbgnjnlecpdfaaa.Pure
open Go.RowKit Go.Proofs.YtbgnjnlecpdfaaaW.PrintWords Go.Proofs.YtbgnjnlecpdfaaaW.PrintLast Go.Proofs.YtbgnjnlecpdfaaaW.PrintMore Go.Proofs.Ytbgnjnlecpdfaaa.PFnRollBack

theorem u64w (n : Int) (h0 : 0 ≤ n) (h1 : n < 18446744073709551616) : IntKind.u64.wrap n = n := by
  simp [IntKind.wrap, IntKind.signed, IntKind.bits]; omega
theorem i64w (n : Int) (h0 : -9223372036854775808 ≤ n) (h1 : n < 9223372036854775808) : IntKind.i64.wrap n = n := by
  rw [IntKind.wrap_i64]; omega
theorem w64 (n : Int) (h0 : -9223372036854775808 ≤ n) (h1 : n < 9223372036854775808) : wrap64 n = n := by unfold wrap64; omega
theorem up1 (i : Int) (h0 : 0 ≤ i) (h : i < 9223372036854775807) : wrap64 (i + 1) = i + 1 := by unfold wrap64; omega
theorem u64_lo (n : Int) : 0 ≤ IntKind.u64.wrap n := by simp [IntKind.wrap, IntKind.signed, IntKind.bits]; omega
theorem u64_hi (n : Int) : IntKind.u64.wrap n < 18446744073709551616 := by simp [IntKind.wrap, IntKind.signed, IntKind.bits]; omega
theorem u64_wf (x : Int) (h : (Lit.int .u64 x).wf = true) : 0 ≤ x ∧ x < 18446744073709551616 := by
  simp [Lit.wf, IntKind.min, IntKind.max, IntKind.signed, IntKind.bits] at h; omega
theorem and31 (x : Int) (h0 : 0 ≤ x) (h1 : x < 18446744073709551616) : Go.bits .and .u64 x 31 = x % 32 := by
  have := bits_mask .u64 64 (by decide) (fun n a b => u64w n a (by simpa using b)) 5 (by decide) x h0 (by simpa using h1)
  simpa using this
theorem or5 (a c : Int) (h0 : 0 ≤ a) (h1 : a * 32 < 18446744073709551616) (hc0 : 0 ≤ c) (hc : c < 32) : Go.bits .or .u64 (a * 32) c = a * 32 + c := by
  have := bits_join .u64 64 (by decide) (fun n x y => u64w n x (by simpa using y)) 5 (a * 32) c (by omega) (by omega) (by simpa using h1) hc0 (by simpa using hc) (by simp; omega)
  exact this
theorem bt_list (l : List UInt8) (i : Int) : bt ⟨l.toArray⟩ i = ((l.getD i.toNat 0).toNat : Int) := by
  unfold bt
  split
  · rename_i h
    have h' : i.toNat < l.length := by simpa [ByteArray.size] using h
    rw [List.getD_eq_getElem?_getD, List.getElem?_eq_getElem h']
    rfl
  · rename_i h
    have h' : l.length ≤ i.toNat := by simpa [ByteArray.size] using h
    rw [List.getD_eq_getElem?_getD, List.getElem?_eq_none h']; rfl
def alpha : ByteArray := ⟨#[48, 49, 50, 51, 52, 53, 54, 55, 56, 57, 97, 98, 99, 100, 102, 103, 104, 105, 106, 107, 108, 109, 110, 112, 113, 114, 115, 118, 119, 120, 121, 122]⟩
def dg (x : Int) (n : Nat) : Int := bt alpha (x / 2 ^ (5 * n) % 32)
def ds (x : Int) : Nat → List Int
  | 0 => []
  | n + 1 => dg x n :: ds x n
theorem ds_length (x : Int) : ∀ n, (ds x n).length = n
  | 0 => rfl
  | n + 1 => by simp [ds, ds_length x n]
def word (x : Int) : ByteArray := strOfNums (ds x 13)
theorem div_lo (x : Int) (h0 : 0 ≤ x) (n : Nat) : 0 ≤ x / 2 ^ n := Int.ediv_nonneg h0 (by have := Nat.two_pow_pos n; exact_mod_cast Nat.zero_le _)
theorem div_hi (x : Int) (h0 : 0 ≤ x) (n : Nat) : x / 2 ^ n ≤ x := Int.ediv_le_self _ h0
theorem shr5 (x : Int) (n : Nat) (hn : n ≤ 12) : shr .u64 x (5 * n) = x / 2 ^ (5 * n) := by
  unfold shr
  have e : (5 * (n : Int)).toNat = 5 * n := by omega
  rw [e, Nat.min_eq_left (by simp [IntKind.bits]; omega)]
def dv (c : Int) : Int := Lib.indexByte alpha.data.toList c.toNat.toUInt8
theorem dv_all : ∀ c : Fin 256, -1 ≤ dv (c.val : Int) ∧ dv (c.val : Int) < 32 := by decide +kernel
theorem dv_bounds (c : Int) (h0 : 0 ≤ c) (h1 : c ≤ 255) : -1 ≤ dv c ∧ dv c < 32 := by
  have := dv_all ⟨c.toNat, by omega⟩
  simpa [Int.toNat_of_nonneg h0] using this
def rwGo (s : ByteArray) : Nat → Int → Nat → Int × Bool
  | 0, x, _ => (x, true)
  | d + 1, x, i => if dv (bt s i) < 0 then (0, false) else if i = 0 ∧ dv (bt s i) > 15 then (0, false) else rwGo s d (x * 32 + dv (bt s i)) (i + 1)
def rw32 (s : ByteArray) : Int × Bool := if s.size = 13 then rwGo s 13 0 0 else (0, false)
def lim (d : Nat) : Int := if d = 13 then 1 else 2 ^ (64 - 5 * d)
theorem lim_all : ∀ d : Fin 13, lim d.val ≤ 18446744073709551616 ∧ 0 < lim d.val ∧ (d.val < 12 → lim (d.val + 1) * 32 = lim d.val) ∧ (d.val = 12 → lim d.val = 16) ∧ lim (d.val + 1) * 32 ≤ 18446744073709551616 := by decide +kernel
theorem word_size (x : Int) : (word x).size = 13 := by unfold word; rw [strOfNums_size, ds_length]

-- Ev
def Ev {α : Type} (f : Nat → Option α) (r : α) : Prop := ∃ K, ∀ k, K ≤ k → f k = some r
theorem Ev.pure {α : Type} {r : α} : Ev (fun _ => some r) r := ⟨0, fun _ _ => rfl⟩
theorem Ev.of {α : Type} {f : Nat → Option α} {r : α} (N : Nat) (h : ∀ k, N ≤ k → f k = some r) : Ev f r := ⟨N, h⟩
theorem Ev.step {α : Type} {f : Nat → Option α} {r : α} (h : Ev (fun k => f (k + 1)) r) : Ev f r := by
  obtain ⟨K, h⟩ := h
  refine ⟨K + 1, fun k hk => ?_⟩
  obtain ⟨m, rfl⟩ : ∃ m, k = m + 1 := ⟨k - 1, by omega⟩
  exact h m (by omega)
theorem Ev.bind {α β : Type} {f : Nat → Option α} {g : Nat → α → Option β} {a : α} {r : β} (h : Ev f a) (h2 : Ev (fun k => g k a) r) : Ev (fun k => (f k).bind (g k)) r := by
  obtain ⟨K, h⟩ := h
  obtain ⟨K2, h2⟩ := h2
  refine ⟨K + K2, fun k hk => ?_⟩
  show (f k).bind (g k) = some r
  rw [h k (by omega)]
  exact h2 k (by omega)
theorem Ev.cons {α β : Type} {x : Option α} {g : Nat → α → Option β} {a : α} {r : β} (h : x = some a) (h2 : Ev (fun k => g k a) r) : Ev (fun k => x.bind (g k)) r := by
  subst h
  exact h2
theorem Ev.pos {α : Type} {c : Prop} [Decidable c] {f g : Nat → Option α} {r : α} (hc : c) (h : Ev f r) : Ev (fun k => if c then f k else g k) r := by
  simpa only [if_pos hc] using h
theorem Ev.neg {α : Type} {c : Prop} [Decidable c] {f g : Nat → Option α} {r : α} (hc : ¬ c) (h : Ev g r) : Ev (fun k => if c then f k else g k) r := by
  simpa only [if_neg hc] using h
theorem Ev.at {α : Type} {f : Nat → Option α} {r : α} (h : Ev f r) : ∃ k, f k = some r := by
  obtain ⟨K, h⟩ := h
  exact ⟨K, h K (Nat.le_refl _)⟩
theorem Ev.uniq {α : Type} {f : Nat → Option α} {r s : α} (h : Ev f r) (h2 : Ev f s) : r = s := by
  obtain ⟨K, h⟩ := h
  obtain ⟨K2, h2⟩ := h2
  have a := h (K + K2) (by omega)
  have b := h2 (K + K2) (by omega)
  rw [a] at b
  exact Option.some.inj b
theorem downTo (n : Nat) (P : Nat → Prop) (base : P n) (step : ∀ i, i < n → P (i + 1) → P i) : ∀ i, i ≤ n → P i := by
  intro i hi
  obtain ⟨d, rfl⟩ : ∃ d, i = n - d := ⟨n - i, by omega⟩
  clear hi
  induction d with
  | zero => exact base
  | succ d ih =>
    by_cases h : d < n
    · refine step _ (by omega) ?_
      have e : n - (d + 1) + 1 = n - d := by omega
      rw [e]; exact ih
    · have e : n - (d + 1) = n - d := by omega
      rw [e]; exact ih
theorem upN (i : Nat) (h : i < 1000000000000000) : wrap64 ((i : Int) + 1) = ((i + 1 : Nat) : Int) := by unfold wrap64; omega
theorem dnN (i : Nat) (h : i < 1000000000000000) (h0 : 0 < i) : wrap64 ((i : Int) - 1) = ((i - 1 : Nat) : Int) := by unfold wrap64; omega
theorem setLoop {A B : Type} (L : Nat → List B → Int → Option (List B)) (x : List A) (c : A → B)
    (step : ∀ (i : Nat) (y : List B) (r : List B) (h : i < x.length), y.length = x.length → Ev (fun k => L k (y.set i (c x[i])) ((i + 1 : Nat) : Int)) r → Ev (fun k => L k y (i : Int)) r)
    (stop : ∀ y : List B, y.length = x.length → Ev (fun k => L k y ((x.length : Nat) : Int)) y) :
    ∀ y : List B, y.length = x.length → Ev (fun k => L k y 0) (x.map c) := by
  have main := downTo x.length (fun i => ∀ y : List B, y.length = x.length → y.take i = (x.map c).take i → Ev (fun k => L k y (i : Int)) (x.map c)) ?_ ?_
  · intro y hy
    exact main 0 (by omega) y hy (by simp)
  · intro y hy he
    rw [List.take_of_length_le (by omega), List.take_of_length_le (by simp)] at he
    have := stop y hy
    rw [he] at this
    rw [he] at hy
    exact he ▸ stop y (by rw [he]; exact hy)
  · intro i hi ih y hy he
    refine step i y _ hi hy (ih _ (by simp [hy]) ?_)
    rw [List.take_add_one, List.take_add_one, List.take_set_of_le (by omega), he, List.getElem?_set_self (by omega)]
    simp [List.getElem?_eq_getElem hi]
theorem countLoop {α : Type} (L : Nat → Int → Option α) (n : Nat) (r : α) (step : ∀ i : Nat, i < n → Ev (fun k => L k ((i + 1 : Nat) : Int)) r → Ev (fun k => L k (i : Int)) r) (stop : Ev (fun k => L k ((n : Nat) : Int)) r) : Ev (fun k => L k 0) r :=
  downTo n (fun i => Ev (fun k => L k (i : Int)) r) stop (fun i hi h => step i hi h) 0 (by omega)

-- AtL
theorem len1 {α : Type} (p : List α) (x : α) (h : p.length < 1000000000000000) : wrap64 ((p.length : Int) + 1) = (((p ++ [x]).length : Nat) : Int) := by
  rw [List.length_append]
  simp only [List.length_cons, List.length_nil]
  exact upN p.length h
theorem setAt {α : Type} (p t : List α) (x v : α) : (p ++ x :: t).set ((p.length : Nat) : Int).toNat v = (p ++ [v]) ++ t := by
  simp
theorem getAt {α : Type} (p t : List α) (x z : α) : (p ++ x :: t).getD ((p.length : Nat) : Int).toNat z = x := by
  simp [List.getD_eq_getElem?_getD]
theorem upI (a : Int) (h0 : 0 ≤ a) (h : a < 1000000000000000) : wrap64 (a + 1) = a + 1 := by unfold wrap64; omega

-- NameOk
def nmByte (c : Int) : Bool := (decide (97 ≤ c) && decide (c ≤ 122)) || (decide (65 ≤ c) && decide (c ≤ 90)) || (decide (48 ≤ c) && decide (c ≤ 57)) || c == 45 || c == 95 || c == 46 || c == 43
def nmGo (s : ByteArray) : Nat → Nat → Bool
  | 0, _ => true
  | d + 1, i => nmByte (bt s i) && nmGo s d (i + 1)
def nmOk (s : ByteArray) : Bool := decide (1 ≤ s.size) && decide (s.size ≤ 60) && !(bt s 0 == 46) && nmGo s s.size 0
theorem l1Letter_f (c : Int) : spec_l1Letter.f c = some ((decide (97 ≤ c) && decide (c ≤ 122)) || (decide (65 ≤ c) && decide (c ≤ 90))) := by
  unfold spec_l1Letter.f
  by_cases h1 : 97 ≤ c <;> by_cases h2 : c ≤ 122 <;> by_cases h3 : 65 ≤ c <;> by_cases h4 : c ≤ 90 <;> simp [h1, h2, h3, h4] <;> omega
theorem l1Digit_f (c : Int) : spec_l1Digit.f c = some (decide (48 ≤ c) && decide (c ≤ 57)) := by
  unfold spec_l1Digit.f
  by_cases h1 : 48 ≤ c <;> by_cases h2 : c ≤ 57 <;> simp [h1, h2]
theorem letter_f (c : Int) : impl_letter.f c = some ((decide (97 ≤ c) && decide (c ≤ 122)) || (decide (65 ≤ c) && decide (c ≤ 90))) := by
  unfold impl_letter.f
  by_cases h1 : 97 ≤ c <;> by_cases h2 : c ≤ 122 <;> by_cases h3 : 65 ≤ c <;> by_cases h4 : c ≤ 90 <;> simp [h1, h2, h3, h4] <;> omega
theorem digit_f (c : Int) : impl_digit.f c = some (decide (48 ≤ c) && decide (c ≤ 57)) := by
  unfold impl_digit.f
  by_cases h1 : 48 ≤ c <;> by_cases h2 : c ≤ 57 <;> simp [h1, h2]
theorem spec_NameOk_loop (s : ByteArray) (hs : s.size ≤ 60) : ∀ (d i k : Nat), i + d = s.size → d < k → spec_NameOk.l0 k s (i : Int) = some (nmGo s d i) := by
  intro d
  induction d with
  | zero =>
    intro i k hi hk
    obtain ⟨k, rfl⟩ : ∃ m, k = m + 1 := ⟨k - 1, by omega⟩
    simp only [spec_NameOk.l0]; rw [if_neg (by omega)]; rfl
  | succ d ih =>
    intro i k hi hk
    obtain ⟨k, rfl⟩ : ∃ m, k = m + 1 := ⟨k - 1, by omega⟩
    have e3 : wrap64 ((i : Int) + 1) = ((i + 1 : Nat) : Int) := by rw [up1 _ (by omega) (by omega)]; omega
    simp only [spec_NameOk.l0, nmGo, nmByte]
    rw [if_pos (by omega), if_pos (by omega), l1Letter_f, l1Digit_f, e3, ih (i + 1) k (by omega) (by omega)]
    simp only [Option.bind_some]
    generalize bt s (i : Int) = c
    generalize nmGo s d (i + 1) = g
    generalize ((decide (97 ≤ c) && decide (c ≤ 122)) || (decide (65 ≤ c) && decide (c ≤ 90))) = p
    generalize (decide (48 ≤ c) && decide (c ≤ 57)) = q
    cases p <;> cases q <;> simp
    by_cases h1 : c = 45
    · simp [h1]
    · by_cases h2 : c = 95
      · simp [h2]
      · by_cases h3 : c = 46
        · simp [h3]
        · by_cases h4 : c = 43
          · simp [h4]
          · simp [h1, h2, h3, h4]
theorem spec_NameOk_f (s : ByteArray) (k : Nat) (hk : 63 ≤ k) : spec_NameOk.f k s = some (nmOk s) := by
  obtain ⟨k, rfl⟩ : ∃ m, k = m + 1 := ⟨k - 1, by omega⟩
  unfold spec_NameOk.f nmOk
  simp only [spec_NameOk.j0]
  by_cases h1 : (s.size : Int) < 1
  · rw [if_pos h1]
    have : ¬ 1 ≤ s.size := by omega
    simp [this]
  · rw [if_neg h1]
    have e1 : 1 ≤ s.size := by omega
    by_cases h2 : (s.size : Int) > 60
    · rw [if_pos h2]
      have : ¬ s.size ≤ 60 := by omega
      simp [this]
    · rw [if_neg h2, if_pos (by omega)]
      have e2 : s.size ≤ 60 := by omega
      have h := spec_NameOk_loop s e2 s.size 0 k (by omega) (by omega)
      rw [show ((0 : Nat) : Int) = 0 from rfl] at h
      rw [h]
      by_cases h3 : bt s 0 = 46
      · simp [h3]
      · simp [h3, e1, e2]
theorem w32_byte (s : ByteArray) (i : Int) : wrap32 (bt s i) = bt s i := by
  have := bt_range s i
  unfold wrap32; omega
theorem impl_NameOk_loop (s : ByteArray) (hs : s.size ≤ 60) : ∀ (d i k : Nat), i + d = s.size → d < k → impl_NameOk.l0 k s (s.size : Int) (i : Int) = some (nmGo s d i) := by
  intro d
  induction d with
  | zero =>
    intro i k hi hk
    obtain ⟨k, rfl⟩ : ∃ m, k = m + 1 := ⟨k - 1, by omega⟩
    simp only [impl_NameOk.l0]; rw [if_neg (by omega)]; rfl
  | succ d ih =>
    intro i k hi hk
    obtain ⟨k, rfl⟩ : ∃ m, k = m + 1 := ⟨k - 1, by omega⟩
    have e3 : wrap64 ((i : Int) + 1) = ((i + 1 : Nat) : Int) := by rw [up1 _ (by omega) (by omega)]; omega
    have hb := bt_range s (i : Int)
    have e4 : strings_ContainsRune.f (⟨#[45, 95, 46, 43]⟩ : ByteArray) (bt s (i : Int)) = some (bt s (i : Int) == 45 || bt s (i : Int) == 95 || bt s (i : Int) == 46 || bt s (i : Int) == 43) := by
      unfold strings_ContainsRune.f
      rw [if_pos (by rw [Lib.toList_data]), if_pos (by omega)]
    simp only [impl_NameOk.l0, nmGo, nmByte]
    rw [if_pos (by omega), if_pos (by omega), if_pos (by omega), letter_f, digit_f, w32_byte, e4, e3, ih (i + 1) k (by omega) (by omega)]
    simp only [Option.bind_some]
    generalize bt s (i : Int) = c
    generalize nmGo s d (i + 1) = g
    generalize ((decide (97 ≤ c) && decide (c ≤ 122)) || (decide (65 ≤ c) && decide (c ≤ 90))) = p
    generalize (decide (48 ≤ c) && decide (c ≤ 57)) = q
    generalize (c == 45) = r1
    generalize (c == 95) = r2
    generalize (c == 46) = r3
    generalize (c == 43) = r4
    cases p <;> cases q <;> cases r1 <;> cases r2 <;> cases r3 <;> cases r4 <;> simp
theorem impl_NameOk_f (s : ByteArray) (k : Nat) (hk : 63 ≤ k) : impl_NameOk.f k s = some (nmOk s) := by
  obtain ⟨k, rfl⟩ : ∃ m, k = m + 1 := ⟨k - 1, by omega⟩
  unfold impl_NameOk.f nmOk
  simp only [impl_NameOk.j0]
  by_cases h1 : (s.size : Int) < 1
  · rw [if_pos h1]
    have : ¬ 1 ≤ s.size := by omega
    simp [this]
  · rw [if_neg h1]
    have e1 : 1 ≤ s.size := by omega
    by_cases h2 : (s.size : Int) > 60
    · rw [if_pos h2]
      have : ¬ s.size ≤ 60 := by omega
      simp [this]
    · rw [if_neg h2, if_pos (by omega)]
      have e2 : s.size ≤ 60 := by omega
      have h := impl_NameOk_loop s e2 s.size 0 k (by omega) (by omega)
      rw [show ((0 : Nat) : Int) = 0 from rfl] at h
      rw [h]
      by_cases h3 : bt s 0 = 46
      · simp [h3]
      · simp [h3, e1, e2]

-- ReadWord32
theorem l1Index_all : ∀ c : Fin 256, spec_l1Index.f 40 (c.val : Int) = some (dv (c.val : Int)) := by decide +kernel
theorem l1Index_f (c : Int) (h0 : 0 ≤ c) (h1 : c ≤ 255) (k : Nat) (hk : 40 ≤ k) : spec_l1Index.f k c = some (dv c) := by
  have := l1Index_all ⟨c.toNat, by omega⟩
  simp only [Int.toNat_of_nonneg h0] at this
  exact at_rounds (g := fun k => spec_l1Index.f k c) (fun k => spec_l1Index.mono c k) hk this
theorem rw_both (s : ByteArray) (hs : s.size = 13) : ∀ (d i : Nat) (x : Int) (k : Nat), i + d = 13 → 0 ≤ x → x < lim d → d + 41 < k →
    spec_ReadWord32.l0 k s x (i : Int) = some (rwGo s d x i) ∧ impl_ReadWord32.l0 k s x (s.size : Int) (i : Int) = some (rwGo s d x i) := by
  intro d
  induction d with
  | zero =>
    intro i x k hi hx hl hk
    obtain ⟨k, rfl⟩ : ∃ m, k = m + 1 := ⟨k - 1, by omega⟩
    constructor
    · simp only [spec_ReadWord32.l0]; rw [if_neg (by omega)]; rfl
    · simp only [impl_ReadWord32.l0]; rw [if_neg (by omega)]; rfl
  | succ d ih =>
    intro i x k hi hx hl hk
    obtain ⟨k, rfl⟩ : ∃ m, k = m + 1 := ⟨k - 1, by omega⟩
    obtain ⟨b0, b1⟩ := bt_range s (i : Int)
    obtain ⟨t0, t1⟩ := dv_bounds (bt s (i : Int)) b0 b1
    have hf := l1Index_f (bt s (i : Int)) b0 b1 k (by omega)
    have hg : strings_IndexByte.f alpha (bt s (i : Int)) = some (dv (bt s (i : Int))) := rfl
    unfold alpha at hg
    have e3 : ((i : Int) + 1) = ((i + 1 : Nat) : Int) := by omega
    obtain ⟨m0, m1, m2, m3, m4⟩ := lim_all ⟨d, by omega⟩
    simp only at m0 m1 m2 m3 m4
    constructor
    · simp only [spec_ReadWord32.l0, rwGo]
      rw [if_pos (by omega), if_pos (by omega), if_pos (by omega), hf]
      simp only [Option.bind_some]
      by_cases h1 : dv (bt s (i : Int)) < 0
      · rw [if_pos h1, if_pos h1]
      · have e4 : IntKind.u64.wrap (IntKind.u64.wrap (x * 32) + IntKind.u64.wrap (dv (bt s (i : Int)))) = x * 32 + dv (bt s (i : Int)) := by
          rw [u64w (x * 32) (by omega) (by omega), u64w (dv _) (by omega) (by omega)]
          by_cases hd : d = 12
          · subst hd
            have hx0 : x = 0 := by simp [lim] at hl; omega
            subst hx0
            exact u64w _ (by omega) (by omega)
          · have := m2 (by omega)
            exact u64w _ (by omega) (by omega)
        rw [if_neg h1, if_neg h1, e4, up1 _ (by omega) (by omega), e3]
        by_cases h0 : i = 0
        · subst h0
          rw [if_pos (by omega)]
          by_cases h2 : dv (bt s ((0 : Nat) : Int)) > 15
          · rw [if_pos h2, if_pos ⟨rfl, h2⟩]
          · have hx0 : x = 0 := by
              have : d = 12 := by omega
              subst this; simp [lim] at hl; omega
            have := m3 (by omega)
            rw [if_neg h2, if_neg (by rintro ⟨_, h⟩; exact h2 h)]
            exact (ih _ _ k (by omega) (by omega) (by omega) (by omega)).1
        · have := m2 (by omega)
          rw [if_neg (by omega), if_neg (by rintro ⟨h, _⟩; exact h0 h)]
          exact (ih _ _ k (by omega) (by omega) (by omega) (by omega)).1
    · simp only [impl_ReadWord32.l0, rwGo]
      rw [if_pos (by omega), if_pos (by omega), if_pos (by omega), hg]
      simp only [Option.bind_some]
      by_cases h1 : dv (bt s (i : Int)) < 0
      · rw [if_pos h1, if_pos h1]
      · have e4 : Go.bits .or .u64 (IntKind.u64.wrap (x * 32)) (IntKind.u64.wrap (dv (bt s (i : Int)))) = x * 32 + dv (bt s (i : Int)) := by
          rw [u64w (dv _) (by omega) (by omega)]
          by_cases hd : d = 12
          · subst hd
            have hx0 : x = 0 := by simp [lim] at hl; omega
            subst hx0
            rw [u64w (0 * 32) (by omega) (by omega)]
            exact or5 0 _ (by omega) (by omega) (by omega) (by omega)
          · have := m2 (by omega)
            rw [u64w (x * 32) (by omega) (by omega)]
            exact or5 x _ (by omega) (by omega) (by omega) (by omega)
        rw [if_neg h1, if_neg h1, e4, up1 _ (by omega) (by omega), e3]
        by_cases h0 : i = 0
        · subst h0
          rw [if_pos (by omega)]
          by_cases h2 : dv (bt s ((0 : Nat) : Int)) > 15
          · rw [if_pos h2, if_pos ⟨rfl, h2⟩]
          · have hx0 : x = 0 := by
              have : d = 12 := by omega
              subst this; simp [lim] at hl; omega
            have := m3 (by omega)
            rw [if_neg h2, if_neg (by rintro ⟨_, h⟩; exact h2 h)]
            exact (ih _ _ k (by omega) (by omega) (by omega) (by omega)).2
        · have := m2 (by omega)
          rw [if_neg (by omega), if_neg (by rintro ⟨h, _⟩; exact h0 h)]
          exact (ih _ _ k (by omega) (by omega) (by omega) (by omega)).2
theorem spec_ReadWord32_f (s : ByteArray) (k : Nat) (hk : 60 ≤ k) : spec_ReadWord32.f k s = some (rw32 s) := by
  unfold spec_ReadWord32.f rw32
  by_cases h : s.size = 13
  · rw [if_pos (by omega), if_pos h]
    exact (rw_both s h 13 0 0 k (by omega) (by omega) (by decide) (by omega)).1
  · rw [if_neg (by omega), if_neg h]
theorem impl_ReadWord32_f (s : ByteArray) (k : Nat) (hk : 60 ≤ k) : impl_ReadWord32.f k s = some (rw32 s) := by
  unfold impl_ReadWord32.f rw32
  by_cases h : s.size = 13
  · rw [if_pos (by omega), if_pos h]
    exact (rw_both s h 13 0 0 k (by omega) (by omega) (by decide) (by omega)).2
  · rw [if_neg (by omega), if_neg h]

-- AddrI
def adOk (s : ByteArray) : Bool := decide (15 ≤ s.size) && bt s 13 == 45 && (rw32 (s.extract 0 13)).2 && nmOk (s.extract 14 s.size)
theorem nm_empty (s : ByteArray) (h : s.size = 0) : nmOk s = false := by simp [nmOk, h]
theorem impl_AddressOk_f (s : ByteArray) (k : Nat) (hk : 64 ≤ k) : impl_AddressOk.f k s = some (adOk s) := by
  unfold impl_AddressOk.f adOk
  by_cases h1 : (s.size : Int) < 14
  · rw [if_pos h1]
    have : ¬ 15 ≤ s.size := by omega
    simp [this]
  · rw [if_neg h1, if_pos (by omega)]
    by_cases h2 : bt s 13 = 45
    · rw [if_pos h2, if_pos (by omega), impl_NameOk_f _ k (by omega), impl_ReadWord32_f _ k (by omega)]
      simp only [Option.bind_some]
      by_cases h4 : nmOk (s.extract 14 s.size) = true
      · have e1 : 15 ≤ s.size := by
          rcases Nat.lt_or_ge s.size 15 with h | h
          · have e : s.size = 14 := by omega
            rw [nm_empty _ (by simp [ByteArray.size_extract]; omega)] at h4
            exact absurd h4 (by decide)
          · exact h
        rw [if_pos h4, if_pos (by omega), if_pos (by omega)]; simp [h2, h4, e1]
      · rw [if_neg h4]; simp [h4]
    · rw [if_neg h2]; simp [h2]

-- AddressOk
theorem spec_AddressOk_f (s : ByteArray) (k : Nat) (hk : 64 ≤ k) : spec_AddressOk.f k s = some (adOk s) := by
  obtain ⟨k, rfl⟩ : ∃ m, k = m + 1 := ⟨k - 1, by omega⟩
  unfold spec_AddressOk.f adOk
  simp only [spec_AddressOk.j0]
  by_cases h1 : (s.size : Int) < 15
  · rw [if_pos h1]
    have : ¬ 15 ≤ s.size := by omega
    simp [this]
  · rw [if_neg h1, if_pos (by omega)]
    have e1 : 15 ≤ s.size := by omega
    by_cases h2 : bt s 13 = 45
    · have h3 : (bt s 13 != 45) = false := by simp [h2]
      rw [h3, if_neg (by decide), if_pos (by omega), if_pos (by omega), spec_ReadWord32_f _ k (by omega)]
      simp only [Option.bind_some]
      rw [spec_NameOk_f _ k (by omega)]
      by_cases h4 : (rw32 (s.extract 0 13)).2 = true
      · rw [if_pos h4, if_pos (by omega)]; simp [h2, h4, e1]
      · rw [if_neg h4]; simp [h4]
    · have h3 : (bt s 13 != 45) = true := by simp [h2]
      rw [h3, if_pos rfl]; simp [h2]

-- ProfilesO
theorem rd56 (l : List S56) (i : Nat) (h : i < l.length) : rd_T56 l (i : Int) = l[i] := by unfold rd_T56; simp [List.getD_eq_getElem?_getD, List.getElem?_eq_getElem h]
theorem rd52 (l : List S52) (i : Nat) (h : i < l.length) : rd_T52 l (i : Int) = l[i] := by unfold rd_T52; simp [List.getD_eq_getElem?_getD, List.getElem?_eq_getElem h]
theorem l13Gen_ev (a : ByteArray) (b : Int) (x : List S56) (hx : x.length ≤ 1048576) (n : Int) : ∃ t, Ev (fun k => spec_l13Gen.f k a b x n) t ∧ (t < 0 ↔ x.any (fun g => g.f0 == n) = false) := by
  unfold spec_l13Gen.f
  have key := downTo x.length (fun i => ∃ t, Ev (fun k => spec_l13Gen.l0 k n (i : Int) a b x) t ∧ (t < 0 ↔ (x.drop i).any (fun g => g.f0 == n) = false)) ?_ ?_ 0 (by omega)
  · simpa using key
  · refine ⟨-1, Ev.step ?_, by simp⟩
    simp only [spec_l13Gen.l0]
    exact Ev.neg (by omega) Ev.pure
  · intro i hi ⟨t, ht, he⟩
    by_cases h : (x[i]).f0 = n
    · refine ⟨(i : Int), Ev.step ?_, ?_⟩
      · simp only [spec_l13Gen.l0, rd56 x i hi]
        exact Ev.pos (by omega) (Ev.pos (by omega) (Ev.pos h Ev.pure))
      · rw [List.drop_eq_getElem_cons hi, List.any_cons]
        simp [h]
    · refine ⟨t, Ev.step ?_, ?_⟩
      · simp only [spec_l13Gen.l0, rd56 x i hi, upN i (by omega)]
        exact Ev.pos (by omega) (Ev.pos (by omega) (Ev.neg h ht))
      · rw [List.drop_eq_getElem_cons hi, List.any_cons, he]
        simp [h]
theorem specName_ev (s : ByteArray) : Ev (fun k => spec_NameOk.f k s) (nmOk s) := Ev.of 63 (fun k hk => spec_NameOk_f s k hk)
theorem implName_ev (s : ByteArray) : Ev (fun k => impl_NameOk.f k s) (nmOk s) := Ev.of 63 (fun k hk => impl_NameOk_f s k hk)
theorem specAddress_ev (s : ByteArray) : Ev (fun k => spec_AddressOk.f k s) (adOk s) := Ev.of 64 (fun k hk => spec_AddressOk_f s k hk)
theorem implAddress_ev (s : ByteArray) : Ev (fun k => impl_AddressOk.f k s) (adOk s) := Ev.of 64 (fun k hk => impl_AddressOk_f s k hk)
def gOk (x : List S56) (q : Nat) : Prop := ∀ h : q < x.length, 1 ≤ (x[q]).f0 ∧ (x[q]).f0 ≤ 9007199254740992 ∧ adOk (x[q]).f1 = true ∧ (0 < q → (x[q - 1]).f0 < (x[q]).f0)
def pOk (p : S52) : Prop := nmOk p.f0 = true ∧ p.f2.length ≤ 50 ∧ (p.f1 = 0 ∨ p.f2.any (fun g => g.f0 == p.f1) = true) ∧ ∀ q, gOk p.f2 q
def pAt (ps : List S52) (i : Nat) : Prop := ∀ h : i < ps.length, pOk (ps[i]) ∧ (0 < i → Op.bytesLess ((ps[i - 1]).f0).toList ((ps[i]).f0).toList = true)
theorem go_no {b' : Bool} {f : Nat → Prop} {j : Nat} (h : ¬ f j) : false = true ↔ (b' = true ∧ ∀ q, j ≤ q → f q) := ⟨fun h => by simp at h, fun h2 => absurd (h2.2 j (Nat.le_refl _)) h⟩
theorem go_on {b b' : Bool} {f : Nat → Prop} {j : Nat} (h : f j) (ih : b = true ↔ (b' = true ∧ ∀ q, j + 1 ≤ q → f q)) : b = true ↔ (b' = true ∧ ∀ q, j ≤ q → f q) := by
  rw [ih]
  refine ⟨fun h2 => ⟨h2.1, fun q hq => ?_⟩, fun h2 => ⟨h2.1, fun q hq => h2.2 q (by omega)⟩⟩
  by_cases e : q = j
  · subst e; exact h
  · exact h2.2 q (by omega)
theorem profile_gens (ps : List S52) (i : Nat) (b' : Bool) (a : ByteArray) (n : Int) (x : List S56) (hx : x.length ≤ 50)
    (hs : Ev (fun k => spec_ProfilesOk.l0 k ps (wrap64 ((i : Int) + 1))) b') (hm : Ev (fun k => impl_ProfilesOk.l0 k ps ps (ps.length : Int) (wrap64 ((i : Int) + 1))) b') :
    ∃ b : Bool, (b = true ↔ (b' = true ∧ ∀ q, 0 ≤ q → gOk x q)) ∧ Ev (fun k => spec_ProfilesOk.l1 k ps (i : Int) 0 a n x) b ∧ ∀ now : Bool, Ev (fun k => impl_ProfilesOk.l1 k ps now ps (ps.length : Int) (i : Int) x (x.length : Int) 0 a n x) (if (now || x.any (fun g => g.f0 == n)) = true then b else false) := by
  have key := downTo x.length (fun j => ∃ b : Bool, (b = true ↔ (b' = true ∧ ∀ q, j ≤ q → gOk x q)) ∧ Ev (fun k => spec_ProfilesOk.l1 k ps (i : Int) (j : Int) a n x) b ∧ ∀ now : Bool, Ev (fun k => impl_ProfilesOk.l1 k ps now ps (ps.length : Int) (i : Int) x (x.length : Int) (j : Int) a n x) (if (now || (x.drop j).any (fun g => g.f0 == n)) = true then b else false)) ?_ ?_ 0 (by omega)
  · simpa using key
  · refine ⟨b', ⟨fun h => ⟨h, fun q hq h2 => absurd h2 (by omega)⟩, fun h => h.1⟩, Ev.step ?_, fun now => Ev.step ?_⟩
    · simp only [spec_ProfilesOk.l1]
      exact Ev.neg (by omega) hs
    · simp only [impl_ProfilesOk.l1]
      refine Ev.neg (by omega) ?_
      cases now
      · rw [if_neg (by simp)]; exact Ev.neg (by simp) Ev.pure
      · rw [if_pos (by simp)]; exact Ev.pos rfl hm
  · intro j hj ⟨b, hb, h1, h2⟩
    by_cases c1 : (x[j]).f0 < 1
    · refine ⟨false, go_no (fun h => by have := (h hj).1; omega), Ev.step ?_, fun now => Ev.step ?_⟩
      · simp only [spec_ProfilesOk.l1, rd56 x j hj]
        exact Ev.pos (by omega) (Ev.pos (by omega) (Ev.pos c1 Ev.pure))
      · simp only [impl_ProfilesOk.l1, rd56 x j hj, ite_self]
        exact Ev.pos (by omega) (Ev.pos (by omega) (Ev.pos (by omega) (Ev.pos c1 Ev.pure)))
    by_cases c2 : (x[j]).f0 > 9007199254740992
    · refine ⟨false, go_no (fun h => by have := (h hj).2.1; omega), Ev.step ?_, fun now => Ev.step ?_⟩
      · simp only [spec_ProfilesOk.l1, rd56 x j hj]
        exact Ev.pos (by omega) (Ev.pos (by omega) (Ev.neg c1 (Ev.pos c2 Ev.pure)))
      · simp only [impl_ProfilesOk.l1, rd56 x j hj, ite_self]
        exact Ev.pos (by omega) (Ev.pos (by omega) (Ev.pos (by omega) (Ev.neg c1 (Ev.pos c2 Ev.pure))))
    by_cases c3 : adOk (x[j]).f1 = true
    · have e : ∀ now : Bool, (now || (x.drop j).any (fun g => g.f0 == n)) = ((if now = true then true else ((x[j]).f0 == n)) || (x.drop (j + 1)).any (fun g => g.f0 == n)) := by
        intro now
        rw [List.drop_eq_getElem_cons hj, List.any_cons]
        cases now <;> simp
      have hn : ∀ now : Bool, Ev (fun k => if now = true then impl_ProfilesOk.l1 k ps true ps (ps.length : Int) (i : Int) x (x.length : Int) ((j + 1 : Nat) : Int) a n x else impl_ProfilesOk.l1 k ps ((x[j]).f0 == n) ps (ps.length : Int) (i : Int) x (x.length : Int) ((j + 1 : Nat) : Int) a n x) (if (now || (x.drop j).any (fun g => g.f0 == n)) = true then b else false) := by
        intro now
        rw [e now]
        cases now
        · exact Ev.neg (by simp) (h2 _)
        · exact Ev.pos rfl (h2 _)
      by_cases c4 : 0 < j
      · have hj1 : j - 1 < x.length := by omega
        by_cases c5 : (x[j - 1]).f0 ≥ (x[j]).f0
        · refine ⟨false, go_no (fun h => by have := (h hj).2.2.2 c4; omega), Ev.step ?_, fun now => Ev.step ?_⟩
          · simp only [spec_ProfilesOk.l1, rd56 x j hj, dnN j (by omega) c4, rd56 x (j - 1) hj1]
            exact Ev.pos (by omega) (Ev.pos (by omega) (Ev.neg c1 (Ev.neg c2 (Ev.pos (by omega) (Ev.pos (by omega) (Ev.pos (by omega) (Ev.pos c5 Ev.pure)))))))
          · simp only [impl_ProfilesOk.l1, rd56 x j hj, dnN j (by omega) c4, rd56 x (j - 1) hj1, ite_self]
            exact Ev.pos (by omega) (Ev.pos (by omega) (Ev.pos (by omega) (Ev.neg c1 (Ev.neg c2 (Ev.bind (implAddress_ev _) (Ev.pos c3 (Ev.pos (by omega) (Ev.pos (by omega) (Ev.pos (by omega) (Ev.pos c5 Ev.pure))))))))))
        · refine ⟨b, go_on (fun _ => ⟨by omega, by omega, c3, fun _ => by omega⟩) hb, Ev.step ?_, fun now => Ev.step ?_⟩
          · simp only [spec_ProfilesOk.l1, rd56 x j hj, dnN j (by omega) c4, rd56 x (j - 1) hj1, upN j (by omega)]
            exact Ev.pos (by omega) (Ev.pos (by omega) (Ev.neg c1 (Ev.neg c2 (Ev.pos (by omega) (Ev.pos (by omega) (Ev.pos (by omega) (Ev.neg c5 (Ev.bind (specAddress_ev _) (Ev.pos c3 h1)))))))))
          · simp only [impl_ProfilesOk.l1, rd56 x j hj, dnN j (by omega) c4, rd56 x (j - 1) hj1, upN j (by omega)]
            exact Ev.pos (by omega) (Ev.pos (by omega) (Ev.pos (by omega) (Ev.neg c1 (Ev.neg c2 (Ev.bind (implAddress_ev _) (Ev.pos c3 (Ev.pos (by omega) (Ev.pos (by omega) (Ev.pos (by omega) (Ev.neg c5 (hn now)))))))))))
      · refine ⟨b, go_on (fun _ => ⟨by omega, by omega, c3, fun h => absurd h c4⟩) hb, Ev.step ?_, fun now => Ev.step ?_⟩
        · simp only [spec_ProfilesOk.l1, rd56 x j hj, upN j (by omega)]
          exact Ev.pos (by omega) (Ev.pos (by omega) (Ev.neg c1 (Ev.neg c2 (Ev.neg (by omega) (Ev.bind (specAddress_ev _) (Ev.pos c3 h1))))))
        · simp only [impl_ProfilesOk.l1, rd56 x j hj, upN j (by omega)]
          exact Ev.pos (by omega) (Ev.pos (by omega) (Ev.pos (by omega) (Ev.neg c1 (Ev.neg c2 (Ev.bind (implAddress_ev _) (Ev.pos c3 (Ev.neg (by omega) (hn now))))))))
    · refine ⟨false, go_no (fun h => c3 (h hj).2.2.1), Ev.step ?_, fun now => Ev.step ?_⟩
      · by_cases c4 : 0 < j
        · have hj1 : j - 1 < x.length := by omega
          by_cases c5 : (x[j - 1]).f0 ≥ (x[j]).f0
          · simp only [spec_ProfilesOk.l1, rd56 x j hj, dnN j (by omega) c4, rd56 x (j - 1) hj1]
            exact Ev.pos (by omega) (Ev.pos (by omega) (Ev.neg c1 (Ev.neg c2 (Ev.pos (by omega) (Ev.pos (by omega) (Ev.pos (by omega) (Ev.pos c5 Ev.pure)))))))
          · simp only [spec_ProfilesOk.l1, rd56 x j hj, dnN j (by omega) c4, rd56 x (j - 1) hj1]
            exact Ev.pos (by omega) (Ev.pos (by omega) (Ev.neg c1 (Ev.neg c2 (Ev.pos (by omega) (Ev.pos (by omega) (Ev.pos (by omega) (Ev.neg c5 (Ev.bind (specAddress_ev _) (Ev.neg c3 Ev.pure)))))))))
        · simp only [spec_ProfilesOk.l1, rd56 x j hj]
          exact Ev.pos (by omega) (Ev.pos (by omega) (Ev.neg c1 (Ev.neg c2 (Ev.neg (by omega) (Ev.bind (specAddress_ev _) (Ev.neg c3 Ev.pure))))))
      · simp only [impl_ProfilesOk.l1, rd56 x j hj, ite_self]
        exact Ev.pos (by omega) (Ev.pos (by omega) (Ev.pos (by omega) (Ev.neg c1 (Ev.neg c2 (Ev.bind (implAddress_ev _) (Ev.neg c3 Ev.pure))))))
theorem ProfilesOk_iff (ps : List S52) : ∃ b : Bool, (b = true ↔ (ps.length ≤ 20 ∧ ∀ i, pAt ps i)) ∧ Ev (fun k => spec_ProfilesOk.f k ps) b ∧ Ev (fun k => impl_ProfilesOk.f k ps) b := by
  unfold spec_ProfilesOk.f impl_ProfilesOk.f
  by_cases hl : (ps.length : Int) > 20
  · exact ⟨false, ⟨fun h => by simp at h, fun h => absurd h.1 (by omega)⟩, Ev.pos hl Ev.pure, Ev.pos hl Ev.pure⟩
  have key := downTo ps.length (fun i => ∃ b : Bool, (b = true ↔ (true = true ∧ ∀ q, i ≤ q → pAt ps q)) ∧ Ev (fun k => spec_ProfilesOk.l0 k ps (i : Int)) b ∧ Ev (fun k => impl_ProfilesOk.l0 k ps ps (ps.length : Int) (i : Int)) b) ?_ ?_ 0 (by omega)
  · obtain ⟨b, hb, h1, h2⟩ := key
    exact ⟨b, ⟨fun h => ⟨by omega, fun i => (hb.1 h).2 i (by omega)⟩, fun h => hb.2 ⟨rfl, fun i _ => h.2 i⟩⟩, Ev.neg hl h1, Ev.neg hl h2⟩
  · refine ⟨true, ⟨fun _ => ⟨rfl, fun q hq h2 => absurd h2 (by omega)⟩, fun _ => rfl⟩, Ev.step ?_, Ev.step ?_⟩
    · simp only [spec_ProfilesOk.l0]
      exact Ev.neg (by omega) Ev.pure
    · simp only [impl_ProfilesOk.l0]
      exact Ev.neg (by omega) Ev.pure
  · intro i hi ⟨b', hb, h1, h2⟩
    rw [← upN i (by omega)] at h1 h2
    have fin : ∀ (m : Bool), (m = false → ((ps[i]).f2.length : Int) ≤ 50) → ∃ b : Bool, (b = true ↔ (b' = true ∧ m = false ∧ ((ps[i]).f1 = 0 ∨ (ps[i]).f2.any (fun g => g.f0 == (ps[i]).f1) = true) ∧ ∀ q, gOk (ps[i]).f2 q)) ∧ (∀ t : Bool, t = (m || (if (ps[i]).f1 = 0 then false else !((ps[i]).f2.any (fun g => g.f0 == (ps[i]).f1)))) → Ev (fun k => spec_ProfilesOk.j1 k ps (i : Int) t (ps[i]).f0 (ps[i]).f1 (ps[i]).f2) b) ∧ Ev (fun k => impl_ProfilesOk.j1 k ps ps (ps.length : Int) (i : Int) m (ps[i]).f0 (ps[i]).f1 (ps[i]).f2) b := by
      intro m hm
      cases m
      · obtain ⟨b, gb, g1, g2⟩ := profile_gens ps i b' (ps[i]).f0 (ps[i]).f1 (ps[i]).f2 (by have := hm rfl; omega) h1 h2
        refine ⟨if (((ps[i]).f1 == 0) || (ps[i]).f2.any (fun g => g.f0 == (ps[i]).f1)) = true then b else false, ?_, ?_, Ev.step ?_⟩
        · by_cases c : (((ps[i]).f1 == 0) || (ps[i]).f2.any (fun g => g.f0 == (ps[i]).f1)) = true
          · rw [if_pos c, gb]
            rw [Bool.or_eq_true] at c
            exact ⟨fun h => ⟨h.1, rfl, by rcases c with c | c; exact Or.inl (by simpa using c); exact Or.inr c, fun q => h.2 q (by omega)⟩, fun h => ⟨h.1, fun q _ => h.2.2.2 q⟩⟩
          · rw [if_neg c]
            refine ⟨fun h => by simp at h, fun h => ?_⟩
            exfalso
            apply c
            rw [Bool.or_eq_true]
            rcases h.2.2.1 with e | e
            · exact Or.inl (by simpa using e)
            · exact Or.inr e
        · intro t ht
          refine Ev.step ?_
          simp only [spec_ProfilesOk.j1]
          by_cases c : (ps[i]).f1 = 0
          · have et : t = false := by rw [ht]; simp [c]
            have eb : (((ps[i]).f1 == 0) || (ps[i]).f2.any (fun g => g.f0 == (ps[i]).f1)) = true := by simp [c]
            rw [et, if_pos eb]
            exact Ev.neg (by simp) g1
          · by_cases d : (ps[i]).f2.any (fun g => g.f0 == (ps[i]).f1) = true
            · have et : t = false := by rw [ht, if_neg c, d]; rfl
              have eb : (((ps[i]).f1 == 0) || (ps[i]).f2.any (fun g => g.f0 == (ps[i]).f1)) = true := by rw [d]; simp
              rw [et, if_pos eb]
              exact Ev.neg (by simp) g1
            · have d' : (ps[i]).f2.any (fun g => g.f0 == (ps[i]).f1) = false := by simpa using d
              have et : t = true := by rw [ht, if_neg c, d']; rfl
              have eb : ¬ (((ps[i]).f1 == 0) || (ps[i]).f2.any (fun g => g.f0 == (ps[i]).f1)) = true := by rw [d']; simp [c]
              rw [et, if_neg eb]
              exact Ev.pos rfl Ev.pure
        · simp only [impl_ProfilesOk.j1]
          exact Ev.neg (by simp) (g2 _)
      · refine ⟨false, by simp, ?_, Ev.step ?_⟩
        · intro t ht
          refine Ev.step ?_
          simp only [spec_ProfilesOk.j1]
          exact Ev.pos (by rw [ht]; rfl) Ev.pure
        · simp only [impl_ProfilesOk.j1]
          exact Ev.pos trivial Ev.pure
    have tail : ∃ b : Bool, (b = true ↔ (b' = true ∧ (ps[i]).f2.length ≤ 50 ∧ ((ps[i]).f1 = 0 ∨ (ps[i]).f2.any (fun g => g.f0 == (ps[i]).f1) = true) ∧ ∀ q, gOk (ps[i]).f2 q)) ∧ Ev (fun k => if ((ps[i]).f2.length : Int) > 50 then (spec_ProfilesOk.j1 k ps (i : Int) true (ps[i]).f0 (ps[i]).f1 (ps[i]).f2) else (if (ps[i]).f1 = 0 then (spec_ProfilesOk.j1 k ps (i : Int) false (ps[i]).f0 (ps[i]).f1 (ps[i]).f2) else ((spec_l13Gen.f k (ps[i]).f0 (ps[i]).f1 (ps[i]).f2 (ps[i]).f1).bind fun t => (spec_ProfilesOk.j1 k ps (i : Int) (decide (t < 0)) (ps[i]).f0 (ps[i]).f1 (ps[i]).f2)))) b
        ∧ Ev (fun k => impl_ProfilesOk.j1 k ps ps (ps.length : Int) (i : Int) (decide (((ps[i]).f2.length : Int) > 50)) (ps[i]).f0 (ps[i]).f1 (ps[i]).f2) b := by
      by_cases c : ((ps[i]).f2.length : Int) > 50
      · obtain ⟨b, gb, g1, g2⟩ := fin true (by simp)
        refine ⟨b, by rw [gb]; exact ⟨fun h => absurd h.2.1 (by simp), fun h => absurd h.2.1 (by omega)⟩, Ev.pos c (g1 _ rfl), ?_⟩
        rw [decide_eq_true c]; exact g2
      · obtain ⟨b, gb, g1, g2⟩ := fin false (by omega)
        rw [decide_eq_false c]
        refine ⟨b, by rw [gb]; exact ⟨fun h => ⟨h.1, by omega, h.2.2⟩, fun h => ⟨h.1, rfl, h.2.2⟩⟩, Ev.neg c ?_, g2⟩
        by_cases d : (ps[i]).f1 = 0
        · exact Ev.pos d (g1 _ (by rw [if_pos d]; rfl))
        · obtain ⟨t, ht, he⟩ := l13Gen_ev (ps[i]).f0 (ps[i]).f1 (ps[i]).f2 (by omega) (ps[i]).f1
          refine Ev.neg d (Ev.bind ht (g1 _ ?_))
          rw [if_neg d]
          by_cases t0 : t < 0
          · rw [decide_eq_true t0, he.1 t0]; rfl
          · have : ¬ _ := fun h => t0 (he.2 h)
            rw [decide_eq_false t0]
            simp only [Bool.not_eq_false] at this
            rw [this]; rfl
    obtain ⟨bt, fb, f1, f2⟩ := fin true (by simp)
    obtain rfl : bt = false := by
      cases bt
      · rfl
      · exact absurd (fb.1 rfl).2.1 (by simp)
    have f1 := f1 true rfl
    by_cases c1 : nmOk (ps[i]).f0 = true
    · by_cases c2 : 0 < i
      · have hi1 : i - 1 < ps.length := by omega
        by_cases c3 : Op.bytesLess ((ps[i - 1]).f0).toList ((ps[i]).f0).toList = true
        · obtain ⟨b, tb, t1, t2⟩ := tail
          refine ⟨b, by rw [tb]; exact ⟨fun h => ⟨rfl, fun q hq => by
            by_cases e : q = i
            · subst e; exact fun _ => ⟨⟨c1, h.2.1, h.2.2.1, h.2.2.2⟩, fun _ => c3⟩
            · exact (hb.1 h.1).2 q (by omega)⟩, fun h => ⟨hb.2 ⟨rfl, fun q hq => h.2 q (by omega)⟩, (h.2 i (Nat.le_refl _) hi).1.2.1, (h.2 i (Nat.le_refl _) hi).1.2.2.1, (h.2 i (Nat.le_refl _) hi).1.2.2.2⟩⟩, Ev.step ?_, Ev.step ?_⟩
          · simp only [spec_ProfilesOk.l0, rd52 ps i hi, dnN i (by omega) c2, rd52 ps (i - 1) hi1]
            exact Ev.pos (by omega) (Ev.pos (by omega) (Ev.bind (specName_ev _) (Ev.pos c1 (Ev.pos (by omega) (Ev.pos (by omega) (Ev.pos (by omega) (Ev.pos c3 t1)))))))
          · simp only [impl_ProfilesOk.l0, rd52 ps i hi, dnN i (by omega) c2, rd52 ps (i - 1) hi1]
            exact Ev.pos (by omega) (Ev.pos (by omega) (Ev.pos (by omega) (Ev.bind (implName_ev _) (Ev.pos c1 (Ev.pos (by omega) (Ev.pos (by omega) (Ev.pos (by omega) (Ev.pos c3 t2))))))))
        · refine ⟨false, go_no (fun h => c3 ((h hi).2 c2)), Ev.step ?_, Ev.step ?_⟩
          · simp only [spec_ProfilesOk.l0, rd52 ps i hi, dnN i (by omega) c2, rd52 ps (i - 1) hi1]
            exact Ev.pos (by omega) (Ev.pos (by omega) (Ev.bind (specName_ev _) (Ev.pos c1 (Ev.pos (by omega) (Ev.pos (by omega) (Ev.pos (by omega) (Ev.neg c3 f1)))))))
          · simp only [impl_ProfilesOk.l0, rd52 ps i hi, dnN i (by omega) c2, rd52 ps (i - 1) hi1]
            exact Ev.pos (by omega) (Ev.pos (by omega) (Ev.pos (by omega) (Ev.bind (implName_ev _) (Ev.pos c1 (Ev.pos (by omega) (Ev.pos (by omega) (Ev.pos (by omega) (Ev.neg c3 f2))))))))
      · obtain ⟨b, tb, t1, t2⟩ := tail
        refine ⟨b, by rw [tb]; exact ⟨fun h => ⟨rfl, fun q hq => by
            by_cases e : q = i
            · subst e; exact fun _ => ⟨⟨c1, h.2.1, h.2.2.1, h.2.2.2⟩, fun h => absurd h c2⟩
            · exact (hb.1 h.1).2 q (by omega)⟩, fun h => ⟨hb.2 ⟨rfl, fun q hq => h.2 q (by omega)⟩, (h.2 i (Nat.le_refl _) hi).1.2.1, (h.2 i (Nat.le_refl _) hi).1.2.2.1, (h.2 i (Nat.le_refl _) hi).1.2.2.2⟩⟩, Ev.step ?_, Ev.step ?_⟩
        · simp only [spec_ProfilesOk.l0, rd52 ps i hi]
          exact Ev.pos (by omega) (Ev.pos (by omega) (Ev.bind (specName_ev _) (Ev.pos c1 (Ev.neg (by omega) t1))))
        · simp only [impl_ProfilesOk.l0, rd52 ps i hi]
          exact Ev.pos (by omega) (Ev.pos (by omega) (Ev.pos (by omega) (Ev.bind (implName_ev _) (Ev.pos c1 (Ev.neg (by omega) t2)))))
    · refine ⟨false, go_no (fun h => c1 (h hi).1.1), Ev.step ?_, Ev.step ?_⟩
      · simp only [spec_ProfilesOk.l0, rd52 ps i hi]
        exact Ev.pos (by omega) (Ev.pos (by omega) (Ev.bind (specName_ev _) (Ev.neg c1 f1)))
      · simp only [impl_ProfilesOk.l0, rd52 ps i hi]
        exact Ev.pos (by omega) (Ev.pos (by omega) (Ev.pos (by omega) (Ev.bind (implName_ev _) (Ev.neg c1 f2))))
theorem ProfilesOk_ev (ps : List S52) : ∃ b, Ev (fun k => spec_ProfilesOk.f k ps) b ∧ Ev (fun k => impl_ProfilesOk.f k ps) b := by
  obtain ⟨b, _, h⟩ := ProfilesOk_iff ps
  exact ⟨b, h⟩

-- FindP
theorem findProfile_ev (x : List S52) (hx : x.length ≤ 1048576) (n : ByteArray) : ∃ t : Int, Ev (fun k => spec_l13Find.f k x n) t ∧ Ev (fun k => impl_profileOf.f k x n) t ∧ (0 ≤ t → t < x.length) := by
  unfold spec_l13Find.f impl_profileOf.f
  refine downTo x.length (fun i => ∃ t : Int, Ev (fun k => spec_l13Find.l0 k x n (i : Int)) t ∧ Ev (fun k => impl_profileOf.l0 k n x (x.length : Int) (i : Int)) t ∧ (0 ≤ t → t < x.length)) ?_ ?_ 0 (by omega)
  · refine ⟨-1, Ev.step ?_, Ev.step ?_, by omega⟩
    · simp only [spec_l13Find.l0]
      exact Ev.neg (by omega) Ev.pure
    · simp only [impl_profileOf.l0]
      exact Ev.neg (by omega) Ev.pure
  · intro i hi ⟨t, h1, h2, h3⟩
    by_cases c : (x[i]).f0.toList = n.toList
    · refine ⟨(i : Int), Ev.step ?_, Ev.step ?_, by omega⟩
      · simp only [spec_l13Find.l0, rd52 x i hi]
        exact Ev.pos (by omega) (Ev.pos (by omega) (Ev.pos c Ev.pure))
      · simp only [impl_profileOf.l0, rd52 x i hi]
        exact Ev.pos (by omega) (Ev.pos (by omega) (Ev.pos (by omega) (Ev.pos c Ev.pure)))
    · refine ⟨t, Ev.step ?_, Ev.step ?_, h3⟩
      · simp only [spec_l13Find.l0, rd52 x i hi, upN i (by omega)]
        exact Ev.pos (by omega) (Ev.pos (by omega) (Ev.neg c h1))
      · simp only [impl_profileOf.l0, rd52 x i hi, upN i (by omega)]
        exact Ev.pos (by omega) (Ev.pos (by omega) (Ev.pos (by omega) (Ev.neg c h2)))

-- CopyP
theorem l13Copy_ev (x : List S52) (hx : x.length ≤ 1048576) (ok : ∀ p ∈ x, p.f2.length ≤ 1048576) : Ev (fun k => spec_l13Copy.f k x) x := by
  unfold spec_l13Copy.f
  have key := downTo x.length (fun i => Ev (fun k => spec_l13Copy.l0 k x (x.take i) (i : Int)) x) ?_ ?_ 0 (by omega)
  · simpa using key
  · refine Ev.step ?_
    simp only [spec_l13Copy.l0, List.take_length]
    exact Ev.neg (by omega) Ev.pure
  · intro i hi ih
    have o := ok _ (List.getElem_mem hi)
    rw [List.take_add_one, List.getElem?_eq_getElem hi] at ih
    refine Ev.step ?_
    simp only [spec_l13Copy.l0, rd52 x i hi, upN i (by omega)]
    exact Ev.pos (by omega) (Ev.pos (by omega) (Ev.cons rfl (Ev.pos (by simp; omega) (Ev.pos (by rw [List.length_take]; omega) ih))))
theorem copyProfiles_ev (x : List S52) (hx : x.length ≤ 1048576) (ok : ∀ p ∈ x, p.f2.length ≤ 1048576) : Ev (fun k => impl_copyProfiles.f k x) x := by
  unfold impl_copyProfiles.f
  have key := downTo x.length (fun i => Ev (fun k => impl_copyProfiles.l0 k (x.take i) x (x.length : Int) (i : Int)) x) ?_ ?_ 0 (by omega)
  · simpa using key
  · refine Ev.step ?_
    simp only [impl_copyProfiles.l0, List.take_length]
    exact Ev.neg (by omega) Ev.pure
  · intro i hi ih
    have o := ok _ (List.getElem_mem hi)
    rw [List.take_add_one, List.getElem?_eq_getElem hi] at ih
    refine Ev.step ?_
    simp only [impl_copyProfiles.l0, rd52 x i hi, upN i (by omega)]
    exact Ev.pos (by omega) (Ev.pos (by omega) (Ev.pos (by omega) (Ev.cons rfl (Ev.pos (by simp; omega) (Ev.pos (by rw [List.length_take]; omega) ih)))))

-- SwitchX
def okP (x : List S52) : Prop := x.length ≤ 20 ∧ ∀ i, pAt x i
theorem find_at (x : List S52) (hx : x.length ≤ 1048576) (n : ByteArray) : ∃ t : Int, Ev (fun k => spec_l13Find.f k x n) t ∧ Ev (fun k => impl_profileOf.f k x n) t ∧ ((t < 0 ∧ ∀ q (h : q < x.length), (x[q]).f0 ≠ n) ∨ ∃ q : Nat, ∃ h : q < x.length, t = (q : Int) ∧ (x[q]).f0 = n) := by
  unfold spec_l13Find.f impl_profileOf.f
  have key := downTo x.length (fun i => ∃ t : Int, Ev (fun k => spec_l13Find.l0 k x n (i : Int)) t ∧ Ev (fun k => impl_profileOf.l0 k n x (x.length : Int) (i : Int)) t ∧ ((t < 0 ∧ ∀ q (h : q < x.length), i ≤ q → (x[q]).f0 ≠ n) ∨ ∃ q : Nat, ∃ h : q < x.length, t = (q : Int) ∧ (x[q]).f0 = n)) ?_ ?_ 0 (by omega)
  · obtain ⟨t, h1, h2, h3⟩ := key
    exact ⟨t, h1, h2, h3.imp_left fun h => ⟨h.1, fun q hq => h.2 q hq (by omega)⟩⟩
  · refine ⟨-1, Ev.step ?_, Ev.step ?_, Or.inl ⟨by omega, fun q h h2 => by omega⟩⟩
    · simp only [spec_l13Find.l0]
      exact Ev.neg (by omega) Ev.pure
    · simp only [impl_profileOf.l0]
      exact Ev.neg (by omega) Ev.pure
  · intro i hi ⟨t, h1, h2, h3⟩
    by_cases c : (x[i]).f0.toList = n.toList
    · refine ⟨(i : Int), Ev.step ?_, Ev.step ?_, Or.inr ⟨i, hi, rfl, toList_inj c⟩⟩
      · simp only [spec_l13Find.l0, rd52 x i hi]
        exact Ev.pos (by omega) (Ev.pos (by omega) (Ev.pos c Ev.pure))
      · simp only [impl_profileOf.l0, rd52 x i hi]
        exact Ev.pos (by omega) (Ev.pos (by omega) (Ev.pos (by omega) (Ev.pos c Ev.pure)))
    · refine ⟨t, Ev.step ?_, Ev.step ?_, h3.imp_left fun h => ⟨h.1, fun q hq h5 => ?_⟩⟩
      · simp only [spec_l13Find.l0, rd52 x i hi, upN i (by omega)]
        exact Ev.pos (by omega) (Ev.pos (by omega) (Ev.neg c h1))
      · simp only [impl_profileOf.l0, rd52 x i hi, upN i (by omega)]
        exact Ev.pos (by omega) (Ev.pos (by omega) (Ev.pos (by omega) (Ev.neg c h2)))
      · rcases Nat.eq_or_lt_of_le h5 with rfl | h6
        · exact fun e => c (by rw [e])
        · exact h.2 q hq h6
theorem current_at (a : ByteArray) (b : Int) (x : List S56) (hx : x.length ≤ 1048576) : ∃ s, Ev (fun k => spec_l13Current.f k a b x) s ∧ Ev (fun k => impl_current.f k a b x) s ∧
    ((s = (⟨#[]⟩ : ByteArray) ∧ ∀ q (h : q < x.length), (x[q]).f0 ≠ b) ∨ ∃ q, ∃ h : q < x.length, (x[q]).f0 = b ∧ s = (x[q]).f1) := by
  unfold spec_l13Current.f impl_current.f spec_l13Gen.f
  have key := downTo x.length (fun i => ∃ (t : Int) (s : ByteArray), Ev (fun k => spec_l13Gen.l0 k b (i : Int) a b x) t ∧ Ev (fun k => impl_current.l0 k x (x.length : Int) (i : Int) a b x) s ∧ ((t < 0 ∧ s = (⟨#[]⟩ : ByteArray) ∧ ∀ q (h : q < x.length), i ≤ q → (x[q]).f0 ≠ b) ∨ ∃ q : Nat, ∃ h : q < x.length, t = (q : Int) ∧ (x[q]).f0 = b ∧ s = (x[q]).f1)) ?_ ?_ 0 (by omega)
  · obtain ⟨t, s, h1, h2, h3⟩ := key
    refine ⟨s, Ev.bind h1 ?_, h2, ?_⟩
    · rcases h3 with ⟨h3, rfl, _⟩ | ⟨q, hq, rfl, _, rfl⟩
      · exact Ev.pos h3 Ev.pure
      · rw [rd56 x q hq]
        exact Ev.neg (by omega) (Ev.pos (by omega) (Ev.pos (by omega) Ev.pure))
    · rcases h3 with ⟨_, e, h4⟩ | ⟨q, hq, _, e, e2⟩
      · exact Or.inl ⟨e, fun q h => h4 q h (by omega)⟩
      · exact Or.inr ⟨q, hq, e, e2⟩
  · refine ⟨-1, ⟨#[]⟩, Ev.step ?_, Ev.step ?_, Or.inl ⟨by omega, rfl, fun q h h2 => by omega⟩⟩
    · simp only [spec_l13Gen.l0]
      exact Ev.neg (by omega) Ev.pure
    · simp only [impl_current.l0]
      exact Ev.neg (by omega) Ev.pure
  · intro i hi ⟨t, s, h1, h2, h3⟩
    by_cases c : (x[i]).f0 = b
    · refine ⟨(i : Int), (x[i]).f1, Ev.step ?_, Ev.step ?_, Or.inr ⟨i, hi, rfl, c, rfl⟩⟩
      · simp only [spec_l13Gen.l0, rd56 x i hi]
        exact Ev.pos (by omega) (Ev.pos (by omega) (Ev.pos c Ev.pure))
      · simp only [impl_current.l0, rd56 x i hi]
        exact Ev.pos (by omega) (Ev.pos (by omega) (Ev.pos (by omega) (Ev.pos c Ev.pure)))
    · refine ⟨t, s, Ev.step ?_, Ev.step ?_, ?_⟩
      · simp only [spec_l13Gen.l0, rd56 x i hi, upN i (by omega)]
        exact Ev.pos (by omega) (Ev.pos (by omega) (Ev.neg c h1))
      · simp only [impl_current.l0, rd56 x i hi, upN i (by omega)]
        exact Ev.pos (by omega) (Ev.pos (by omega) (Ev.pos (by omega) (Ev.neg c h2)))
      · rcases h3 with ⟨h3, e, h4⟩ | h3
        · refine Or.inl ⟨h3, e, fun q h h5 => ?_⟩
          rcases Nat.eq_or_lt_of_le h5 with rfl | h6
          · exact c
          · exact h4 q h h6
        · exact Or.inr h3
def insAt (x : List S52) (i : Nat) (n : ByteArray) : List S52 := x.take i ++ (⟨n, 0, []⟩ : S52) :: x.drop i
def Fine (r : List S52) : Prop := r.length ≤ 1048576 ∧ ∀ p ∈ r, p.f2.length ≤ 1048576
def Elem (p : S52) : Prop := p.f2.length ≤ 50 ∧ (p.f1 = 0 ∨ p.f2.any (fun g => g.f0 == p.f1) = true) ∧ ∀ q (h : q < p.f2.length), 1 ≤ ((p.f2)[q]).f0 ∧ ((p.f2)[q]).f0 ≤ 9007199254740992 ∧ adOk ((p.f2)[q]).f1 = true
theorem j3_ev (p0 : List S52) (f0 : Fine p0) (path : ByteArray) (x : List S52) (i : Nat) (hi : i < x.length) (hx : (x[i]).f2.length ≤ 50) (n : Int) :
    ∃ r b, Ev (fun k => spec_Switch.j3 p0 k path x (i : Int) n) (r, b) ∧ Ev (fun k => impl_Switch.j3 p0 k path x (i : Int) n) (r, b) ∧ Fine r ∧ (b = false → r = p0) ∧ (b = true → okP r ∧ r = x.set i ⟨(x[i]).f0, n, (x[i]).f2 ++ [⟨n, path⟩]⟩) := by
  obtain ⟨y, hy⟩ : ∃ y, y = (x.set i ⟨(x[i]).f0, (x[i]).f1, (x[i]).f2 ++ [⟨n, path⟩]⟩) := ⟨_, rfl⟩
  have hyl : y.length = x.length := by rw [hy, List.length_set]
  have hyi : i < y.length := by omega
  obtain ⟨z, hz⟩ : ∃ z, z = y.set i ⟨(y[i]).f0, n, (y[i]).f2⟩ := ⟨_, rfl⟩
  have yi : y[i] = ⟨(x[i]).f0, (x[i]).f1, (x[i]).f2 ++ [⟨n, path⟩]⟩ := by
    subst hy
    exact List.getElem_set_self _
  have hz' : z = x.set i ⟨(x[i]).f0, n, (x[i]).f2 ++ [⟨n, path⟩]⟩ := by rw [hz, yi, hy, List.set_set]
  obtain ⟨b, hb, b1, b2⟩ := ProfilesOk_iff z
  have c1 := l13Copy_ev p0 f0.1 f0.2
  have c2 := copyProfiles_ev p0 f0.1 f0.2
  have fine : b = true → Fine z := by
    intro h
    obtain ⟨h1, h2⟩ := hb.1 h
    refine ⟨by omega, fun p hp => ?_⟩
    obtain ⟨q, hq, rfl⟩ := List.mem_iff_getElem.1 hp
    have := ((h2 q hq).1).2.1
    omega
  have sfin (r : List S52) (q : Bool) (h : Ev (fun k => if b = true then some (z, true) else (spec_l13Copy.f k p0).bind fun t => some (t, false)) (r, q)) : Ev (fun k => spec_Switch.j3 p0 k path x (i : Int) n) (r, q) := by
    refine Ev.step ?_
    simp only [spec_Switch.j3]
    refine Ev.cons rfl (Ev.pos (by omega) (Ev.pos (by omega) (Ev.pos (by rw [rd52 x i hi]; simp only [List.length_nil]; omega) (Ev.cons rfl (Ev.pos (by rw [rd52 x i hi]; simp only [List.length_append, List.length_nil]; omega) (Ev.cons rfl (Ev.cons rfl ?_)))))))
    have e1 : x.set ((i : Int)).toNat ⟨(rd_T52 x (i : Int)).f0, (rd_T52 x (i : Int)).f1, ([] ++ (rd_T52 x (i : Int)).f2 ++ [(⟨n, path⟩ : S56)])⟩ = y := by
      rw [rd52 x i hi, hy, List.nil_append, Int.toNat_natCast]
    rw [e1, rd52 y i hyi, Int.toNat_natCast, ← hz]
    exact Ev.bind b1 h
  have ifin (r : List S52) (q : Bool) (h : Ev (fun k => if b = true then some (z, true) else (impl_copyProfiles.f k p0).bind fun t => some (t, false)) (r, q)) : Ev (fun k => impl_Switch.j3 p0 k path x (i : Int) n) (r, q) := by
    refine Ev.step ?_
    simp only [impl_Switch.j3]
    refine Ev.pos (by omega) (Ev.pos (by omega) (Ev.pos (by rw [rd52 x i hi]; omega) (Ev.cons rfl (Ev.cons rfl ?_))))
    have e1 : x.set ((i : Int)).toNat ⟨(rd_T52 x (i : Int)).f0, (rd_T52 x (i : Int)).f1, ((rd_T52 x (i : Int)).f2 ++ [(⟨n, path⟩ : S56)])⟩ = y := by
      rw [rd52 x i hi, hy, Int.toNat_natCast]
    rw [e1, rd52 y i hyi, Int.toNat_natCast, ← hz]
    exact Ev.bind b2 h
  by_cases c : b = true
  · exact ⟨z, true, sfin _ _ (Ev.pos c Ev.pure), ifin _ _ (Ev.pos c Ev.pure), fine c, fun h => (by cases h), fun _ => ⟨hb.1 c, hz'⟩⟩
  · exact ⟨p0, false, sfin _ _ (Ev.neg c (Ev.bind c1 Ev.pure)), ifin _ _ (Ev.neg c (Ev.bind c2 Ev.pure)), f0, fun _ => rfl, fun h => (by cases h)⟩
theorem j2_ev (p0 : List S52) (f0 : Fine p0) (path : ByteArray) (x : List S52) (i : Nat) (hi : i < x.length) (hx : Elem x[i]) (F : Bool) (hF : F = true → x = p0) :
    ∃ r b, Ev (fun k => spec_Switch.j2 p0 k path x (i : Int) F) (r, b) ∧ Ev (fun k => impl_Switch.j2 p0 k path x (i : Int) F) (r, b) ∧ Fine r ∧ (b = false → r = p0) ∧ (b = true → (F = true ∧ r = p0 ∧ x = p0) ∨ ∃ m, okP r ∧ r = x.set i ⟨(x[i]).f0, m, (x[i]).f2 ++ [⟨m, path⟩]⟩) := by
  by_cases c : F = true
  · subst c
    obtain rfl := hF rfl
    refine ⟨x, true, Ev.step ?_, Ev.step ?_, f0, fun h => (by cases h), fun _ => Or.inl ⟨rfl, rfl, rfl⟩⟩
    · simp only [spec_Switch.j2]
      exact Ev.pos trivial (Ev.bind (l13Copy_ev x f0.1 f0.2) Ev.pure)
    · simp only [impl_Switch.j2]
      exact Ev.pos trivial Ev.pure
  · obtain ⟨h1, h2, h3⟩ := hx
    by_cases g : 0 < (x[i]).f2.length
    · obtain ⟨m, hm⟩ : ∃ m, m = (x[i]).f2.length - 1 := ⟨_, rfl⟩
      have hml : m < (x[i]).f2.length := by omega
      have hw : wrap64 (((x[i]).f2.length : Int) - 1) = (m : Int) := by rw [w64 _ (by omega) (by omega)]; omega
      obtain ⟨r, b, r1, r2, r3, r4, r5⟩ := j3_ev p0 f0 path x i hi h1 (wrap64 (((x[i]).f2[m]).f0 + 1))
      refine ⟨r, b, Ev.step ?_, Ev.step ?_, r3, r4, fun h => Or.inr ⟨_, r5 h⟩⟩
      · simp only [spec_Switch.j2, rd52 x i hi, hw, rd56 (x[i]).f2 m hml]
        exact Ev.neg c (Ev.pos (by omega) (Ev.pos (by omega) (Ev.pos (by omega) (Ev.pos (by omega) (Ev.pos (by omega) r1)))))
      · simp only [impl_Switch.j2, rd52 x i hi, hw, rd56 (x[i]).f2 m hml]
        exact Ev.neg c (Ev.pos (by omega) (Ev.pos (by omega) (Ev.pos (by omega) (Ev.pos (by omega) (Ev.pos (by omega) r2)))))
    · obtain ⟨r, b, r1, r2, r3, r4, r5⟩ := j3_ev p0 f0 path x i hi h1 1
      refine ⟨r, b, Ev.step ?_, Ev.step ?_, r3, r4, fun h => Or.inr ⟨_, r5 h⟩⟩
      · simp only [spec_Switch.j2, rd52 x i hi]
        exact Ev.neg c (Ev.pos (by omega) (Ev.pos (by omega) (Ev.neg (by omega) r1)))
      · simp only [impl_Switch.j2, rd52 x i hi]
        exact Ev.neg c (Ev.pos (by omega) (Ev.pos (by omega) (Ev.neg (by omega) r2)))
theorem ba_nilList (s : ByteArray) : s.toList = ([] : List UInt8) ↔ s.size = 0 := by
  rw [← List.length_eq_zero_iff]
  have : s.toList.length = s.size := by rw [ByteArray.toList_eq]; exact Array.length_toList
  rw [this]
theorem ad_nonempty (s : ByteArray) (h : adOk s = true) : ¬ s.toList = ([] : List UInt8) := by
  rw [ba_nilList]
  simp only [adOk, Bool.and_eq_true, decide_eq_true_eq] at h
  omega
theorem j1_ev (p0 : List S52) (f0 : Fine p0) (path : ByteArray) (x : List S52) (i : Nat) (hi : i < x.length) (hx : Elem x[i]) (hnew : (x[i]).f1 ≠ 0 → x = p0) :
    ∃ r b, Ev (fun k => spec_Switch.j1 p0 k path x (i : Int)) (r, b) ∧ Ev (fun k => impl_Switch.j1 p0 k path x (i : Int)) (r, b) ∧ Fine r ∧ (b = false → r = p0) ∧ (b = true → (r = p0 ∧ x = p0 ∧ ∃ q, ∃ hq : q < (x[i]).f2.length, ((x[i]).f2[q]).f0 = (x[i]).f1 ∧ ((x[i]).f2[q]).f1 = path) ∨ ∃ m, okP r ∧ r = x.set i ⟨(x[i]).f0, m, (x[i]).f2 ++ [⟨m, path⟩]⟩) := by
  obtain ⟨s, s1, s2, s3⟩ := current_at (x[i]).f0 (x[i]).f1 (x[i]).f2 (by have := hx.1; omega)
  obtain ⟨F, hF⟩ : ∃ F : Bool, F = (!((x[i]).f1 == 0) && !(path.toList == []) && (s.toList == path.toList)) := ⟨_, rfl⟩
  obtain ⟨r, b, r1, r2, r3, r4, r5⟩ := j2_ev p0 f0 path x i hi hx F (fun h => by
    rw [hF, Bool.and_eq_true, Bool.and_eq_true] at h
    exact hnew (by simpa using h.1.1))
  refine ⟨r, b, Ev.step ?_, Ev.step ?_, r3, r4, fun h => (r5 h).imp_left fun e => ⟨e.2.1, e.2.2, ?_⟩⟩
  · simp only [spec_Switch.j1, rd52 x i hi]
    refine Ev.pos (by omega) (Ev.pos (by omega) ?_)
    by_cases c : path.toList = ([] : List UInt8)
    · have e : F = false := by rw [hF, c]; simp
      rw [e] at r1
      exact Ev.pos c r1
    · have e : (s.toList == path.toList) = F := by
        rw [hF]
        by_cases z : (x[i]).f1 = 0
        · rcases s3 with ⟨rfl, _⟩ | ⟨q, hq, e1, _⟩
          · have : ((⟨#[]⟩ : ByteArray).toList == path.toList) = false := beq_eq_false_iff_ne.mpr (fun h => c (h.symm.trans ((ba_nilList _).2 rfl)))
            rw [this]
            simp
          · exfalso
            have := (hx.2.2 q hq).1
            omega
        · have h1 : ((x[i]).f1 == 0) = false := by simpa using z
          have h2 : (path.toList == ([] : List UInt8)) = false := beq_eq_false_iff_ne.mpr c
          rw [h1, h2]
          simp
      rw [← e] at r1
      exact Ev.neg c (Ev.bind s1 r1)
  · simp only [impl_Switch.j1, rd52 x i hi]
    refine Ev.pos (by omega) (Ev.pos (by omega) ?_)
    by_cases z : (x[i]).f1 = 0
    · have e : F = false := by rw [hF, z]; simp
      rw [e] at r2
      exact Ev.pos z r2
    · have e : (s.toList == path.toList) = F := by
        rw [hF]
        have h1 : ((x[i]).f1 == 0) = false := by simpa using z
        by_cases c : path.toList = ([] : List UInt8)
        · rcases s3 with ⟨_, h4⟩ | ⟨q, hq, _, rfl⟩
          · exfalso
            rcases hx.2.1 with h5 | h5
            · exact z h5
            · rw [List.any_eq_true] at h5
              obtain ⟨g, hg, hge⟩ := h5
              obtain ⟨q, hq, rfl⟩ := List.mem_iff_getElem.1 hg
              exact h4 q hq (by simpa using hge)
          · rw [c]
            have := ad_nonempty _ (hx.2.2 q hq).2.2
            have h6 : ((((x[i]).f2)[q]).f1.toList == ([] : List UInt8)) = false := beq_eq_false_iff_ne.mpr this
            rw [h6]
            simp
        · have h2 : (path.toList == ([] : List UInt8)) = false := beq_eq_false_iff_ne.mpr c
          rw [h1, h2]
          simp
      rw [← e] at r2
      exact Ev.neg z (Ev.bind s2 r2)
  · have hf := e.1
    rw [hF, Bool.and_eq_true, Bool.and_eq_true] at hf
    obtain ⟨⟨_, c⟩, d⟩ := hf
    have d' : s = path := toList_inj (by simpa using d)
    rcases s3 with ⟨e2, _⟩ | ⟨q, hq, e2, e3⟩
    · exfalso
      have : path.toList = ([] : List UInt8) := by rw [← d', e2]; exact (ba_nilList _).2 rfl
      rw [this] at c
      simp at c
    · exact ⟨q, hq, e2, e3.symm.trans d'⟩
theorem insP_at (x : List S52) (z : S52) (i : Nat) (n : ByteArray) (hi : i ≤ x.length) : insP (x ++ [z]) (i : Int) n = insAt x i n := by
  unfold insP insAt
  rw [Int.toNat_natCast, List.take_append_of_le_length hi, List.drop_append_of_le_length hi, List.dropLast_concat]
theorem l0_ev (p0 : List S52) (n path : ByteArray) (x : List S52) (hx : x.length ≤ 1048576) (W : List S52 → Bool → Prop)
    (hc : ∀ i, i ≤ x.length → ∃ r b, Ev (fun k => spec_Switch.j1 p0 k path (insAt x i n) (i : Int)) (r, b) ∧ Ev (fun k => impl_Switch.j1 p0 k path (insAt x i n) (i : Int)) (r, b) ∧ Fine r ∧ W r b) :
    ∃ r b, Ev (fun k => spec_Switch.l0 p0 k n path x 0) (r, b) ∧ Ev (fun k => impl_Switch.l0 p0 k n path x 0) (r, b) ∧ Fine r ∧ W r b := by
  have hl : ∀ i, i ≤ x.length → (insAt x i n).length = x.length + 1 := fun i hi => by unfold insAt; rw [List.length_append, List.length_cons, List.length_take, List.length_drop]; omega
  have es : ∀ i, i ≤ x.length → ([] ++ x.take i ++ [(⟨n, 0, []⟩ : S52)]) ++ x.drop i = insAt x i n := fun i hi => by unfold insAt; simp
  have stop_i : ∀ i, i ≤ x.length → ∀ r b, Ev (fun k => impl_Switch.j1 p0 k path (insAt x i n) (i : Int)) (r, b) → ∀ z : S52, Ev (fun k => impl_Switch.j1 p0 k path (insP (x ++ [z]) (i : Int) n) (i : Int)) (r, b) := by
    intro i hi r b h z
    rw [insP_at x z i n hi]
    exact h
  refine downTo x.length (fun i => ∃ r b, Ev (fun k => spec_Switch.l0 p0 k n path x (i : Int)) (r, b) ∧ Ev (fun k => impl_Switch.l0 p0 k n path x (i : Int)) (r, b) ∧ Fine r ∧ W r b) ?_ ?_ 0 (by omega)
  · obtain ⟨r, b, r1, r2, r3⟩ := hc x.length (Nat.le_refl _)
    refine ⟨r, b, Ev.step ?_, Ev.step ?_, r3⟩
    · simp only [spec_Switch.l0, Int.toNat_natCast]
      refine Ev.neg (by omega) (Ev.cons rfl (Ev.pos (by omega) (Ev.pos (by omega) (Ev.cons rfl (Ev.pos (by simp; omega) (Ev.cons rfl (Ev.cons rfl (Ev.pos (by simp; omega) (Ev.cons rfl (Ev.cons rfl (Ev.pos (by simp; omega) ?_)))))))))))
      rw [es x.length (Nat.le_refl _)]
      exact r1
    · simp only [impl_Switch.l0, upN x.length (by omega)]
      exact Ev.neg (by omega) (Ev.pos (by omega) (Ev.cons rfl (Ev.pos (by omega) (Ev.pos (by rw [List.length_append, List.length_singleton]; omega) (Ev.pos (by omega) (Ev.pos (by rw [List.length_append, List.length_singleton]; omega) (Ev.pos (by rw [List.length_append, List.length_singleton]; omega) (stop_i _ (Nat.le_refl _) _ _ r2 _))))))))
  · intro i hi ⟨r, b, r1, r2, r3⟩
    by_cases c : Op.bytesLess ((x[i]).f0.toList) n.toList = true
    · refine ⟨r, b, Ev.step ?_, Ev.step ?_, r3⟩
      · simp only [spec_Switch.l0, rd52 x i hi, upN i (by omega)]
        exact Ev.pos (by omega) (Ev.pos (by omega) (Ev.pos c r1))
      · simp only [impl_Switch.l0, rd52 x i hi, upN i (by omega)]
        exact Ev.pos (by omega) (Ev.pos (by omega) (Ev.pos c r2))
    · obtain ⟨r, b, r1, r2, r3⟩ := hc i (by omega)
      refine ⟨r, b, Ev.step ?_, Ev.step ?_, r3⟩
      · simp only [spec_Switch.l0, rd52 x i hi, Int.toNat_natCast]
        refine Ev.pos (by omega) (Ev.pos (by omega) (Ev.neg c (Ev.cons rfl (Ev.pos (by omega) (Ev.cons rfl (Ev.pos (by simp; omega) (Ev.cons rfl (Ev.cons rfl (Ev.pos (by simp; omega) (Ev.cons rfl (Ev.cons rfl (Ev.pos (by simp; omega) ?_))))))))))))
        rw [es i (by omega)]
        exact r1
      · simp only [impl_Switch.l0, rd52 x i hi, upN i (by omega)]
        exact Ev.pos (by omega) (Ev.pos (by omega) (Ev.neg c (Ev.pos (by omega) (Ev.cons rfl (Ev.pos (by omega) (Ev.pos (by rw [List.length_append, List.length_singleton]; omega) (Ev.pos (by rw [List.length_append, List.length_singleton]; omega) (Ev.pos (by rw [List.length_append, List.length_singleton]; omega) (stop_i _ (by omega) _ _ r2 _)))))))))
def SwOut (x : List S52) (n path : ByteArray) (r : List S52) : Prop :=
  (r = x ∧ ∃ i, ∃ hi : i < x.length, (x[i]).f0 = n ∧ ∃ q, ∃ hq : q < (x[i]).f2.length, ((x[i]).f2[q]).f0 = (x[i]).f1 ∧ ((x[i]).f2[q]).f1 = path) ∨
  (okP r ∧ ∃ i m, ∃ hi : i < x.length, (x[i]).f0 = n ∧ r = x.set i ⟨n, m, (x[i]).f2 ++ [⟨m, path⟩]⟩) ∨
  (okP r ∧ (∀ q (h : q < x.length), (x[q]).f0 ≠ n) ∧ ∃ i m, i ≤ x.length ∧ r = (insAt x i n).set i ⟨n, m, [⟨m, path⟩]⟩)
theorem insAt_len (x : List S52) (i : Nat) (n : ByteArray) (hi : i ≤ x.length) : (insAt x i n).length = x.length + 1 := by
  unfold insAt
  rw [List.length_append, List.length_cons, List.length_take, List.length_drop]
  omega
theorem Switch_at (x : List S52) (n path : ByteArray) (hx : x.length ≤ 1048576) (ok : ∀ p ∈ x, p.f2.length ≤ 1048576) :
    ∃ r b, Ev (fun k => spec_Switch.f k x n path) (r, b) ∧ Ev (fun k => impl_Switch.f k x n path) (r, b) ∧ Fine r ∧ (b = false → r = [] ∨ r = x) ∧ (b = true → okP x ∧ SwOut x n path r) := by
  unfold spec_Switch.f impl_Switch.f
  obtain ⟨b, hb, b1, b2⟩ := ProfilesOk_iff x
  by_cases c : ¬ b = true
  · exact ⟨[], false, Ev.bind b1 (Ev.neg c Ev.pure), Ev.bind b2 (Ev.neg c Ev.pure), ⟨by simp, by simp⟩, fun _ => Or.inl rfl, fun h => by cases h⟩
  replace c := Classical.not_not.mp c
  have hok : okP x := hb.1 c
  have s1 := l13Copy_ev x hx ok
  have s2 := copyProfiles_ev x hx ok
  obtain ⟨t, t1, t2, t3⟩ := find_at x hx n
  rcases t3 with ⟨d, hno⟩ | ⟨i, hi, rfl, hn⟩
  · obtain ⟨r, q, r1, r2, r3, r4, r5⟩ := l0_ev x n path x hx (fun r b => (b = false → r = x) ∧ (b = true → SwOut x n path r)) (fun i hi => by
      have hl : i < (insAt x i n).length := by rw [insAt_len x i n hi]; omega
      have he : (insAt x i n)[i] = ⟨n, 0, []⟩ := by
        have h2 : (insAt x i n)[i]? = some (⟨n, 0, []⟩ : S52) := by
          unfold insAt
          rw [List.getElem?_append_right (by rw [List.length_take]; omega), List.length_take, Nat.min_eq_left hi, Nat.sub_self]
          rfl
        exact (List.getElem?_eq_some_iff.1 h2).2
      obtain ⟨r, b, h1, h2, h3, h4, h5⟩ := j1_ev x ⟨hx, ok⟩ path (insAt x i n) i hl (by
        rw [he]
        exact ⟨by simp, Or.inl rfl, fun q h => absurd h (by simp)⟩) (by
        rw [he]
        exact fun h => absurd rfl h)
      refine ⟨r, b, h1, h2, h3, h4, fun h => ?_⟩
      rcases h5 h with ⟨_, e, _⟩ | ⟨m, e1, e2⟩
      · have := congrArg List.length e
        rw [insAt_len x i n hi] at this
        omega
      · rw [he] at e2
        exact Or.inr (Or.inr ⟨e1, hno, i, m, hi, e2⟩))
    exact ⟨r, q, Ev.bind b1 (Ev.pos c (Ev.bind s1 (Ev.bind t1 (Ev.pos d r1)))), Ev.bind b2 (Ev.pos c (Ev.bind s2 (Ev.bind t2 (Ev.pos d r2)))), r3, fun h => Or.inr (r4 h), fun h => ⟨hok, r5 h⟩⟩
  · obtain ⟨⟨_, p2, p3, p4⟩, _⟩ := hok.2 i hi
    obtain ⟨r, q, r1, r2, r3, r4, r5⟩ := j1_ev x ⟨hx, ok⟩ path x i hi ⟨p2, p3, fun q h => ⟨(p4 q h).1, (p4 q h).2.1, (p4 q h).2.2.1⟩⟩ (fun _ => rfl)
    refine ⟨r, q, Ev.bind b1 (Ev.pos c (Ev.bind s1 (Ev.bind t1 (Ev.neg (by omega) r1)))), Ev.bind b2 (Ev.pos c (Ev.bind s2 (Ev.bind t2 (Ev.neg (by omega) r2)))), r3, fun h => Or.inr (r4 h), fun h => ⟨hok, ?_⟩⟩
    rcases r5 h with ⟨e, _, e2⟩ | ⟨m, e1, e2⟩
    · exact Or.inl ⟨e, i, hi, hn, e2⟩
    · rw [hn] at e2
      exact Or.inr (Or.inl ⟨e1, i, m, hi, hn, e2⟩)

-- RollbackX
theorem any_find {x : List S56} {n : Int} : x.any (fun g => g.f0 == n) = true ↔ ∃ q, ∃ h : q < x.length, (x[q]).f0 = n := by
  rw [List.any_eq_true]
  constructor
  · rintro ⟨g, hg, e⟩
    obtain ⟨q, hq, rfl⟩ := List.mem_iff_getElem.1 hg
    exact ⟨q, hq, by simpa using e⟩
  · rintro ⟨q, hq, e⟩
    exact ⟨x[q], List.getElem_mem hq, by simpa using e⟩
theorem l13Gen_find (a : ByteArray) (b : Int) (x : List S56) (hx : x.length ≤ 1048576) (n : Int) : Ev (fun k => spec_l13Gen.f k a b x n) (match rbFind x n with | none => -1 | some j => (j : Int)) := by
  unfold spec_l13Gen.f
  have key := downTo x.length (fun i => (∀ q (h : q < x.length), q < i → (x[q]).f0 ≠ n) → Ev (fun k => spec_l13Gen.l0 k n (i : Int) a b x) (match rbFind x n with | none => -1 | some j => (j : Int))) ?_ ?_
  · exact key 0 (by omega) (fun q _ h => by omega)
  · intro hl
    have e : rbFind x n = none := rb_miss (fun q hq => by rw [rd56 x q hq]; exact hl q hq hq)
    rw [e]
    refine Ev.step ?_
    simp only [spec_l13Gen.l0]
    exact Ev.neg (by omega) Ev.pure
  · intro i hi ih hl
    by_cases h : (x[i]).f0 = n
    · have e : rbFind x n = some i := rb_hit hi (by rw [rd56 x i hi]; exact h) (fun q hq => by rw [rd56 x q (by omega)]; exact hl q (by omega) hq)
      rw [e]
      refine Ev.step ?_
      simp only [spec_l13Gen.l0, rd56 x i hi]
      exact Ev.pos (by omega) (Ev.pos (by omega) (Ev.pos h Ev.pure))
    · refine Ev.step ?_
      simp only [spec_l13Gen.l0, rd56 x i hi, upN i (by omega)]
      refine Ev.pos (by omega) (Ev.pos (by omega) (Ev.neg h (ih fun q hq hqi => ?_)))
      by_cases e : q = i
      · subst e; exact h
      · exact hl q hq (by omega)
theorem Rollback_sm (x : List S52) (n : ByteArray) (hxA : x.length ≤ 20) (okB : ∀ p ∈ x, p.f2.length ≤ 50) :
    ∃ r b, Ev (fun k => spec_Rollback.f k x n) (r, b) ∧ Ev (fun k => impl_Rollback.f k x n) (r, b) ∧ r.length ≤ 20 ∧ ∀ p ∈ r, p.f2.length ≤ 50 := by
  have hx : x.length ≤ 1048576 := by omega
  have ok : ∀ p ∈ x, p.f2.length ≤ 1048576 := fun p hp => by have := okB p hp; omega
  unfold spec_Rollback.f impl_Rollback.f
  obtain ⟨b, hb, b1, b2⟩ := ProfilesOk_iff x
  by_cases c : ¬ b = true
  · exact ⟨_, _, Ev.bind b1 (Ev.neg c Ev.pure), Ev.bind b2 (Ev.neg c Ev.pure), by simp, by simp⟩
  replace c := Classical.not_not.mp c
  have hps := (hb.1 c).2
  have s1 := l13Copy_ev x hx ok
  have s2 := copyProfiles_ev x hx ok
  obtain ⟨t, t1, t2, t3⟩ := findProfile_ev x hx n
  have fin : ∀ (r : List S52) (q : Bool), rbEnd x t = some (r, q) → Ev (fun k => impl_Rollback.f k x n) (r, q) := by
    intro r q h
    unfold impl_Rollback.f
    exact Ev.bind b2 (Ev.pos c (Ev.bind s2 (Ev.bind t2 (Ev.of 0 (fun _ _ => h)))))
  have fin' : ∀ (r : List S52) (q : Bool), rbEnd x t = some (r, q) → Ev (fun k => (impl_ProfilesOk.f k x).bind fun t => if t = true then (impl_copyProfiles.f k x).bind fun o => (impl_profileOf.f k o n).bind fun i => rbEnd o i else some ([], false)) (r, q) := fin
  by_cases d : t < 0
  · refine ⟨x, false, Ev.bind b1 (Ev.pos c (Ev.bind s1 (Ev.bind t1 (Ev.pos d Ev.pure)))), fin' _ _ (by unfold rbEnd; rw [if_pos d]), hxA, okB⟩
  have h0 : 0 ≤ t := by omega
  have hl := t3 h0
  obtain ⟨i, rfl⟩ : ∃ i : Nat, t = i := ⟨t.toNat, by omega⟩
  have hi : i < x.length := by omega
  obtain ⟨⟨_, p2, p3, p4⟩, _⟩ := hps i hi
  have lk := l13Gen_find (x[i]).f0 (x[i]).f1 (x[i]).f2 (by omega) (x[i]).f1
  have e0 : rbEnd x (i : Int) = (if (x[i]).f1 = 0 then some (x, false) else if 0 < (x[i]).f2.length then (if (rd_T56 (x[i]).f2 0).f0 = (x[i]).f1 then some (x, false) else some (rbOut x (i : Int), true)) else none) := by
    unfold rbEnd
    rw [if_neg d, if_pos ⟨h0, hl, by rw [rd52 x i hi]; omega⟩, rd52 x i hi]
  rw [e0] at fin'
  have g1 : ∀ q (h : q < (x[i]).f2.length), 1 ≤ ((x[i]).f2[q]).f0 := fun q h => (p4 q h).1
  cases hf : rbFind (x[i]).f2 (x[i]).f1 with
  | none =>
    rw [hf] at lk
    dsimp only at lk
    have z : (x[i]).f1 = 0 := by
      rcases p3 with p3 | p3
      · exact p3
      · exfalso
        obtain ⟨q, hq, e⟩ := any_find.1 p3
        unfold rbFind at hf
        rw [List.findIdx?_eq_none_iff] at hf
        have := hf _ (List.getElem_mem hq)
        simp [e] at this
    refine ⟨x, false, Ev.bind b1 (Ev.pos c (Ev.bind s1 (Ev.bind t1 (Ev.neg d (Ev.pos h0 (Ev.pos hl ?_)))))), fin' _ _ (by rw [if_pos z]), hxA, okB⟩
    simp only [rd52 x i hi]
    exact Ev.bind lk (Ev.pos (by omega) Ev.pure)
  | some j =>
    rw [hf] at lk
    dsimp only at lk
    have hf2 := hf
    unfold rbFind at hf2
    rw [List.findIdx?_eq_some_iff_getElem] at hf2
    obtain ⟨hj, ej, hlow⟩ := hf2
    have ej' : ((x[i]).f2[j]).f0 = (x[i]).f1 := by simpa using ej
    have nz : ¬ (x[i]).f1 = 0 := by have := g1 j hj; omega
    have hp : 0 < (x[i]).f2.length := by omega
    by_cases cj : j = 0
    · subst cj
      refine ⟨x, false, Ev.bind b1 (Ev.pos c (Ev.bind s1 (Ev.bind t1 (Ev.neg d (Ev.pos h0 (Ev.pos hl ?_)))))), fin' _ _ ?_, hxA, okB⟩
      · simp only [rd52 x i hi]
        exact Ev.bind lk (Ev.pos (by omega) Ev.pure)
      · have e := rd56 (x[i]).f2 0 hj
        rw [show ((0 : Nat) : Int) = 0 from rfl] at e
        rw [if_neg nz, if_pos hp, e, if_pos ej']
    · have eo : rbOut x (i : Int) = x.set ((i : Int)).toNat ⟨(x[i]).f0, (rd_T56 (x[i]).f2 ((j : Int) - 1)).f0, (x[i]).f2⟩ := by
        unfold rbOut
        rw [rd52 x i hi, hf]
      refine ⟨rbOut x (i : Int), true, Ev.bind b1 (Ev.pos c (Ev.bind s1 (Ev.bind t1 (Ev.neg d (Ev.pos h0 (Ev.pos hl ?_)))))), fin' _ _ ?_, ?_, ?_⟩
      · simp only [rd52 x i hi]
        refine Ev.bind lk (Ev.neg (by omega) ?_)
        have ew : wrap64 ((j : Int) - 1) = (j : Int) - 1 := w64 _ (by omega) (by omega)
        simp only [ew]
        rw [eo]
        exact Ev.pos (by omega) (Ev.pos (by omega) Ev.pure)
      · have e := rd56 (x[i]).f2 0 hp
        rw [show ((0 : Nat) : Int) = 0 from rfl] at e
        rw [if_neg nz, if_pos hp, e, if_neg]
        have := hlow 0 (by omega)
        simpa using this
      · rw [eo, List.length_set]
        exact hxA
      · intro p hp
        rw [eo] at hp
        rcases List.mem_or_eq_of_mem_set hp with hp | rfl
        · exact okB p hp
        · show ((x[i]).f2).length ≤ 50
          exact okB _ (List.getElem_mem hi)

-- PruneX
theorem Prune_sm (x : List S52) (n : ByteArray) (keep : Int) (hxA : x.length ≤ 20) (okB : ∀ p ∈ x, p.f2.length ≤ 50) :
    ∃ r b, Ev (fun k => spec_Prune.f k x n keep) (r, b) ∧ Ev (fun k => impl_Prune.f k x n keep) (r, b) ∧ r.length ≤ 20 ∧ ∀ p ∈ r, p.f2.length ≤ 50 := by
  have hx : x.length ≤ 1048576 := by omega
  have ok : ∀ p ∈ x, p.f2.length ≤ 1048576 := fun p hp => by have := okB p hp; omega
  unfold spec_Prune.f impl_Prune.f
  obtain ⟨b, b1, b2⟩ := ProfilesOk_ev x
  by_cases c : ¬ b = true
  · exact ⟨_, _, Ev.bind b1 (Ev.neg c Ev.pure), Ev.bind b2 (Ev.neg c Ev.pure), by simp, by simp⟩
  replace c := Classical.not_not.mp c
  have s1 := l13Copy_ev x hx ok
  have s2 := copyProfiles_ev x hx ok
  obtain ⟨t, t1, t2, t3⟩ := findProfile_ev x hx n
  have fin : ∀ q : Bool, (q = false → 0 ≤ t) → ∃ r b, Ev (fun k => spec_Prune.j0 k keep x t q) (r, b) ∧ Ev (fun k => impl_Prune.j0 k keep x t q) (r, b) ∧ r.length ≤ 20 ∧ ∀ p ∈ r, p.f2.length ≤ 50 := by
    intro q hq
    cases q
    · have h0 := hq rfl
      have hl := t3 h0
      obtain ⟨i, rfl⟩ : ∃ i : Nat, t = i := ⟨t.toNat, by omega⟩
      have hi : i < x.length := by omega
      have og := okB _ (List.getElem_mem hi)
      have key := downTo (x[i]).f2.length (fun j => ∀ gs : List S56, gs.length ≤ j → ∃ r b, Ev (fun k => spec_Prune.l0 k keep x (i : Int) gs (j : Int)) (r, b) ∧ Ev (fun k => impl_Prune.l0 k keep x (i : Int) gs (x[i]).f2 ((x[i]).f2.length : Int) (j : Int)) (r, b) ∧ r.length ≤ 20 ∧ ∀ p ∈ r, p.f2.length ≤ 50) ?_ ?_ 0 (by omega) [] (by simp)
      · obtain ⟨r, b, h1, h2, h3⟩ := key
        refine ⟨r, b, Ev.step ?_, Ev.step ?_, h3⟩
        · simp only [spec_Prune.j0]
          exact Ev.neg (by simp) h1
        · simp only [impl_Prune.j0, rd52 x i hi]
          exact Ev.neg (by simp) (Ev.pos h0 (Ev.pos hl h2))
      · intro gs hgs
        refine ⟨x.set i ⟨(x[i]).f0, (x[i]).f1, gs⟩, true, Ev.step ?_, Ev.step ?_, by simpa using hxA, ?_⟩
        · simp only [spec_Prune.l0, rd52 x i hi]
          exact Ev.pos h0 (Ev.pos hl (Ev.neg (by omega) Ev.pure))
        · simp only [impl_Prune.l0, rd52 x i hi]
          exact Ev.neg (by omega) (Ev.pos h0 (Ev.pos hl Ev.pure))
        · intro p hp
          rcases List.mem_or_eq_of_mem_set hp with hp | rfl
          · exact okB p hp
          · simp only; omega
      · intro j hj ih gs hgs
        have hw : Unit → wrap64 (((x[i]).f2.length : Int) - (j : Int)) = ((x[i]).f2.length : Int) - j := fun _ => w64 _ (by omega) (by omega)
        have add : ((x[i]).f2[j]).f0 = (x[i]).f1 ∨ ((x[i]).f2.length : Int) - j ≤ keep → ∃ r b, Ev (fun k => spec_Prune.l0 k keep x (i : Int) gs (j : Int)) (r, b) ∧ Ev (fun k => impl_Prune.l0 k keep x (i : Int) gs (x[i]).f2 ((x[i]).f2.length : Int) (j : Int)) (r, b) ∧ r.length ≤ 20 ∧ ∀ p ∈ r, p.f2.length ≤ 50 := by
          intro hc
          obtain ⟨r, b, h1, h2, h3⟩ := ih (gs ++ [⟨((x[i]).f2[j]).f0, ((x[i]).f2[j]).f1⟩]) (by rw [List.length_append]; simp; omega)
          refine ⟨r, b, Ev.step ?_, Ev.step ?_, h3⟩
          · simp only [spec_Prune.l0, rd52 x i hi, rd56 (x[i]).f2 j hj, hw (), upN j (by omega)]
            refine Ev.pos h0 (Ev.pos hl (Ev.pos (by omega) (Ev.pos (by omega) ?_)))
            by_cases e : ((x[i]).f2[j]).f0 = (x[i]).f1
            · exact Ev.pos e (Ev.pos (by omega) h1)
            · exact Ev.neg e (Ev.pos (by rcases hc with hc | hc; exact absurd hc e; exact hc) (Ev.pos (by omega) h1))
          · simp only [impl_Prune.l0, rd52 x i hi, rd56 (x[i]).f2 j hj, hw (), upN j (by omega)]
            refine Ev.pos (by omega) (Ev.pos (by omega) (Ev.pos (by omega) (Ev.pos h0 (Ev.pos hl ?_))))
            by_cases e : ((x[i]).f2[j]).f0 = (x[i]).f1
            · exact Ev.pos e (Ev.pos (by omega) h2)
            · exact Ev.neg e (Ev.pos (by rcases hc with hc | hc; exact absurd hc e; exact hc) (Ev.pos (by omega) h2))
        by_cases c1 : ((x[i]).f2[j]).f0 = (x[i]).f1
        · exact add (Or.inl c1)
        by_cases c2 : ((x[i]).f2.length : Int) - j ≤ keep
        · exact add (Or.inr c2)
        · obtain ⟨r, b, h1, h2, h3⟩ := ih gs (by omega)
          refine ⟨r, b, Ev.step ?_, Ev.step ?_, h3⟩
          · simp only [spec_Prune.l0, rd52 x i hi, rd56 (x[i]).f2 j hj, hw (), upN j (by omega)]
            exact Ev.pos h0 (Ev.pos hl (Ev.pos (by omega) (Ev.pos (by omega) (Ev.neg c1 (Ev.neg c2 h1)))))
          · simp only [impl_Prune.l0, rd52 x i hi, rd56 (x[i]).f2 j hj, hw (), upN j (by omega)]
            exact Ev.pos (by omega) (Ev.pos (by omega) (Ev.pos (by omega) (Ev.pos h0 (Ev.pos hl (Ev.neg c1 (Ev.neg c2 h2))))))
    · refine ⟨x, false, Ev.step ?_, Ev.step ?_, hxA, okB⟩
      · simp only [spec_Prune.j0]
        exact Ev.pos trivial Ev.pure
      · simp only [impl_Prune.j0]
        exact Ev.pos trivial Ev.pure
  by_cases d : t < 0
  · obtain ⟨r, b', h1, h2, h3⟩ := fin true (by simp)
    exact ⟨r, b', Ev.bind b1 (Ev.pos c (Ev.bind s1 (Ev.bind t1 (Ev.pos d h1)))), Ev.bind b2 (Ev.pos c (Ev.bind s2 (Ev.bind t2 (Ev.pos d h2)))), h3⟩
  · obtain ⟨r, b', h1, h2, h3⟩ := fin (decide (keep < 0)) (by omega)
    exact ⟨r, b', Ev.bind b1 (Ev.pos c (Ev.bind s1 (Ev.bind t1 (Ev.neg d h1)))), Ev.bind b2 (Ev.pos c (Ev.bind s2 (Ev.bind t2 (Ev.neg d h2)))), h3⟩

-- OkP
theorem okP.lt {x : List S52} (h : okP x) : ∀ (d i : Nat) (hd : i + 1 + d < x.length), ltS (x[i]).f0 (x[i + 1 + d]).f0 := by
  have ord : ∀ (j : Nat) (hj : j < x.length), 0 < j → ltS (x[j - 1]).f0 (x[j]).f0 := fun j hj h0 => (h.2 j hj).2 h0
  intro d
  induction d with
  | zero => intro i hd; exact ord (i + 1) hd (by omega)
  | succ d ih =>
    intro i hd
    exact ltS_trans (ih i (by omega)) (ord (i + 1 + (d + 1)) hd (by omega))
theorem okP.inj {x : List S52} (h : okP x) {i j : Nat} (hi : i < x.length) (hj : j < x.length) (e : (x[i]).f0 = (x[j]).f0) : i = j := by
  rcases Nat.lt_trichotomy i j with c | c | c
  · have := h.lt (j - i - 1) i (by omega)
    simp only [show i + 1 + (j - i - 1) = j by omega] at this
    rw [e] at this
    exact absurd this (ltS_irr _)
  · exact c
  · have := h.lt (i - j - 1) j (by omega)
    simp only [show j + 1 + (i - j - 1) = i by omega] at this
    rw [e] at this
    exact absurd this (ltS_irr _)
def gensOk (l : List S56) : Prop := (∀ g ∈ l, 1 ≤ g.f0 ∧ g.f0 ≤ 9007199254740992 ∧ adOk g.f1 = true) ∧ l.Pairwise (fun a b => a.f0 < b.f0)
theorem gens_iff (l : List S56) : (∀ q, gOk l q) ↔ gensOk l := by
  constructor
  · intro h
    refine ⟨fun g hg => ?_, List.pairwise_iff_getElem.2 ?_⟩
    · obtain ⟨q, hq, rfl⟩ := List.getElem_of_mem hg
      exact ⟨(h q hq).1, (h q hq).2.1, (h q hq).2.2.1⟩
    · have : ∀ (d i : Nat) (hd : i + 1 + d < l.length), (l[i]).f0 < (l[i + 1 + d]).f0 := by
        intro d
        induction d with
        | zero => intro i hd; exact (h (i + 1) hd).2.2.2 (by omega)
        | succ d ih =>
          intro i hd
          exact Int.lt_trans (ih i (by omega)) ((h (i + 1 + (d + 1)) hd).2.2.2 (by omega))
      intro i j hi hj hij
      have := this (j - i - 1) i (by omega)
      simpa only [show i + 1 + (j - i - 1) = j by omega] using this
  · intro h q hq
    obtain ⟨h1, h2, h3⟩ := h.1 _ (List.getElem_mem hq)
    exact ⟨h1, h2, h3, fun h0 => List.pairwise_iff_getElem.1 h.2 (q - 1) q (by omega) hq (by omega)⟩
theorem gens_inj {l : List S56} (h : gensOk l) {i j : Nat} (hi : i < l.length) (hj : j < l.length) (e : (l[i]).f0 = (l[j]).f0) : i = j := by
  rcases Nat.lt_trichotomy i j with c | c | c
  · have := List.pairwise_iff_getElem.1 h.2 i j hi hj c
    omega
  · exact c
  · have := List.pairwise_iff_getElem.1 h.2 j i hj hi c
    omega
theorem okP.gens {x : List S52} (h : okP x) {i : Nat} (hi : i < x.length) : gensOk (x[i]).f2 := (gens_iff _).1 (h.2 i hi).1.2.2.2
theorem okP.len {x : List S52} (h : okP x) : ∀ p ∈ x, p.f2.length ≤ 50 := by
  intro p hp
  obtain ⟨i, hi, rfl⟩ := List.getElem_of_mem hp
  exact (h.2 i hi).1.2.1
theorem okP_set {x : List S52} (h : okP x) {i : Nat} (hi : i < x.length) {v : S52} (hn : v.f0 = (x[i]).f0) (hv : pOk v) : okP (x.set i v) := by
  have nm : ∀ (j : Nat) (hj : j < (x.set i v).length), ((x.set i v)[j]).f0 = (x[j]'(by simpa using hj)).f0 := by
    intro j hj
    rw [List.getElem_set]
    split
    · rename_i e
      subst e
      exact hn
    · rfl
  refine ⟨by simpa using h.1, fun j hj => ⟨?_, fun h0 => ?_⟩⟩
  · rw [List.getElem_set]
    split
    · exact hv
    · exact (h.2 j (by simpa using hj)).1
  · rw [nm j hj, nm (j - 1) (by omega)]
    exact (h.2 j (by simpa using hj)).2 h0
theorem cur_what (x : List S52) (hx : x.length ≤ 1048576) (ok : ∀ p ∈ x, p.f2.length ≤ 1048576) (n : ByteArray) : ∃ s, Ev (fun k => spec_Current.f k x n) s ∧ Ev (fun k => impl_Current.f k x n) s ∧
    ((s = (⟨#[]⟩ : ByteArray) ∧ (okP x → ∀ i (hi : i < x.length), (x[i]).f0 = n → ∀ q (hq : q < (x[i]).f2.length), ((x[i]).f2[q]).f0 ≠ (x[i]).f1)) ∨
      (okP x ∧ ∃ i, ∃ hi : i < x.length, (x[i]).f0 = n ∧ ∃ q, ∃ hq : q < (x[i]).f2.length, ((x[i]).f2[q]).f0 = (x[i]).f1 ∧ s = ((x[i]).f2[q]).f1)) := by
  unfold spec_Current.f impl_Current.f
  obtain ⟨t, h1, h2, h3⟩ := find_at x hx n
  obtain ⟨b, hb, b1, b2⟩ := ProfilesOk_iff x
  by_cases c : b = true
  · have hok : okP x := hb.1 c
    rcases h3 with ⟨d, hno⟩ | ⟨i, hi, rfl, hn⟩
    · exact ⟨_, Ev.bind h1 (Ev.bind b1 (Ev.pos c (Ev.pos d Ev.pure))), Ev.bind h2 (Ev.bind b2 (Ev.pos c (Ev.pos d Ev.pure))), Or.inl ⟨rfl, fun _ i hi e => absurd e (hno i hi)⟩⟩
    · obtain ⟨s, s1, s2, s3⟩ := current_at (x[i]).f0 (x[i]).f1 (x[i]).f2 (ok _ (List.getElem_mem hi))
      refine ⟨s, Ev.bind h1 (Ev.bind b1 (Ev.pos c (Ev.neg (by omega) (Ev.pos (by omega) (Ev.pos (by omega) ?_))))), Ev.bind h2 (Ev.bind b2 (Ev.pos c (Ev.neg (by omega) (Ev.pos (by omega) (Ev.pos (by omega) ?_))))), ?_⟩
      · rw [rd52 x i hi]
        exact Ev.bind s1 Ev.pure
      · rw [rd52 x i hi]
        exact Ev.bind s2 Ev.pure
      · rcases s3 with ⟨e, h4⟩ | ⟨q, hq, e1, e2⟩
        · refine Or.inl ⟨e, fun _ j hj e2 => ?_⟩
          have := hok.inj hj hi (e2.trans hn.symm)
          subst this
          exact h4
        · exact Or.inr ⟨hok, i, hi, hn, q, hq, e1, e2⟩
  · exact ⟨_, Ev.bind h1 (Ev.bind b1 (Ev.neg c Ev.pure)), Ev.bind h2 (Ev.bind b2 (Ev.neg c Ev.pure)), Or.inl ⟨rfl, fun h => absurd (hb.2 h) c⟩⟩
theorem cur_is {x : List S52} (h : okP x) {i : Nat} (hi : i < x.length) {q : Nat} (hq : q < (x[i]).f2.length) (e : ((x[i]).f2[q]).f0 = (x[i]).f1) : Ev (fun k => impl_Current.f k x (x[i]).f0) ((x[i]).f2[q]).f1 := by
  obtain ⟨s, _, h2, h3⟩ := cur_what x (by have := h.1; omega) (fun p hp => by have := h.len p hp; omega) (x[i]).f0
  rcases h3 with ⟨_, h4⟩ | ⟨_, j, hj, e1, p, hp, e2, e3⟩
  · exact absurd e (h4 h i hi rfl q hq)
  · have := h.inj hj hi e1
    subst this
    have := gens_inj (h.gens hi) hp hq (e2.trans e.symm)
    subst this
    rw [← e3]
    exact h2
theorem Rollback_at {x : List S52} (h : okP x) {i : Nat} (hi : i < x.length) {q : Nat} (hq : q + 1 < (x[i]).f2.length) (e : ((x[i]).f2[q + 1]).f0 = (x[i]).f1) :
    Ev (fun k => impl_Rollback.f k x (x[i]).f0) (x.set i ⟨(x[i]).f0, ((x[i]).f2[q]).f0, (x[i]).f2⟩, true) := by
  have hx : x.length ≤ 1048576 := by have := h.1; omega
  have ok : ∀ p ∈ x, p.f2.length ≤ 1048576 := fun p hp => by have := h.len p hp; omega
  obtain ⟨b, hb, _, b2⟩ := ProfilesOk_iff x
  have c : b = true := hb.2 h
  have g := h.gens hi
  have gl := h.len _ (List.getElem_mem hi)
  obtain ⟨t, _, t2, t3⟩ := find_at x hx (x[i]).f0
  have ht : t = (i : Int) := by
    rcases t3 with ⟨_, d⟩ | ⟨j, hj, rfl, e2⟩
    · exact absurd rfl (d i hi)
    · rw [h.inj hj hi e2]
  subst ht
  unfold impl_Rollback.f
  refine Ev.bind b2 (Ev.pos c (Ev.bind (copyProfiles_ev x hx ok) (Ev.bind t2 (Ev.of 0 fun _ _ => ?_))))
  have hf : rbFind (x[i]).f2 (x[i]).f1 = some (q + 1) := rb_hit hq (by rw [rd56 (x[i]).f2 (q + 1) hq]; exact e) (fun p hp => by
    rw [rd56 (x[i]).f2 p (by omega)]
    intro e2
    have := gens_inj g (by omega) hq (e2.trans e.symm)
    omega)
  have nz : ¬ (x[i]).f1 = 0 := by
    have := (g.1 _ (List.getElem_mem hq)).1
    omega
  have e0 := rd56 (x[i]).f2 0 (by omega)
  rw [show ((0 : Nat) : Int) = 0 from rfl] at e0
  unfold rbEnd
  rw [if_neg (by omega), if_pos ⟨by omega, by omega, by rw [rd52 x i hi]; omega⟩, rd52 x i hi, if_neg nz, if_pos (by omega), e0, if_neg (fun e2 => by
    have := gens_inj g (by omega) hq (e2.trans e.symm)
    omega)]
  unfold rbOut
  rw [rd52 x i hi, hf]
  have ew : ((q + 1 : Nat) : Int) - 1 = (q : Int) := by omega
  simp only [ew, rd56 (x[i]).f2 q (by omega), Int.toNat_natCast]
theorem Prune_at {x : List S52} (h : okP x) {i : Nat} (hi : i < x.length) (n : ByteArray) (hn : (x[i]).f0 = n) :
    ∃ gs : List S56, gs.Sublist (x[i]).f2 ∧ (∀ q (hq : q < (x[i]).f2.length), ((x[i]).f2[q]).f0 = (x[i]).f1 → (x[i]).f2[q] ∈ gs) ∧ Ev (fun k => impl_Prune.f k x n 1) (x.set i ⟨(x[i]).f0, (x[i]).f1, gs⟩, true) := by
  have hx : x.length ≤ 1048576 := by have := h.1; omega
  have ok : ∀ p ∈ x, p.f2.length ≤ 1048576 := fun p hp => by have := h.len p hp; omega
  obtain ⟨b, hb, _, b2⟩ := ProfilesOk_iff x
  have c : b = true := hb.2 h
  have gl := h.len _ (List.getElem_mem hi)
  obtain ⟨t, _, t2, t3⟩ := find_at x hx n
  have ht : t = (i : Int) := by
    rcases t3 with ⟨_, d⟩ | ⟨j, hj, rfl, e2⟩
    · exact absurd hn (d i hi)
    · rw [h.inj hj hi (e2.trans hn.symm)]
  subst ht
  have key := downTo (x[i]).f2.length (fun j => ∀ gs : List S56, gs.length ≤ j → gs.Sublist ((x[i]).f2.take j) → (∀ q (hq : q < (x[i]).f2.length), q < j → ((x[i]).f2[q]).f0 = (x[i]).f1 → (x[i]).f2[q] ∈ gs) →
    ∃ r : List S56, r.Sublist (x[i]).f2 ∧ (∀ q (hq : q < (x[i]).f2.length), ((x[i]).f2[q]).f0 = (x[i]).f1 → (x[i]).f2[q] ∈ r) ∧ Ev (fun k => impl_Prune.l0 k 1 x (i : Int) gs (x[i]).f2 ((x[i]).f2.length : Int) (j : Int)) (x.set i ⟨(x[i]).f0, (x[i]).f1, r⟩, true)) ?_ ?_ 0 (by omega) [] (by simp) (by simp) (fun q _ h => absurd h (by omega))
  · obtain ⟨r, r1, r2, r3⟩ := key
    refine ⟨r, r1, r2, ?_⟩
    unfold impl_Prune.f
    refine Ev.bind b2 (Ev.pos c (Ev.bind (copyProfiles_ev x hx ok) (Ev.bind t2 (Ev.neg (by omega) (Ev.step ?_)))))
    simp only [impl_Prune.j0, rd52 x i hi]
    exact Ev.neg (by simp) (Ev.pos (by omega) (Ev.pos (by omega) r3))
  · intro gs hgs hs hm
    refine ⟨gs, by simpa using hs, fun q hq e => hm q hq hq e, Ev.step ?_⟩
    simp only [impl_Prune.l0, rd52 x i hi, Int.toNat_natCast]
    exact Ev.neg (by omega) (Ev.pos (by omega) (Ev.pos (by omega) Ev.pure))
  · intro j hj ih gs hgs hs hm
    have hw : Unit → wrap64 (((x[i]).f2.length : Int) - (j : Int)) = ((x[i]).f2.length : Int) - j := fun _ => w64 _ (by omega) (by omega)
    have htk : (x[i]).f2.take (j + 1) = (x[i]).f2.take j ++ [(x[i]).f2[j]] := (List.take_append_getElem hj).symm
    have add : ((x[i]).f2[j]).f0 = (x[i]).f1 ∨ ((x[i]).f2.length : Int) - j ≤ 1 → ∃ r : List S56, r.Sublist (x[i]).f2 ∧ (∀ q (hq : q < (x[i]).f2.length), ((x[i]).f2[q]).f0 = (x[i]).f1 → (x[i]).f2[q] ∈ r) ∧ Ev (fun k => impl_Prune.l0 k 1 x (i : Int) gs (x[i]).f2 ((x[i]).f2.length : Int) (j : Int)) (x.set i ⟨(x[i]).f0, (x[i]).f1, r⟩, true) := by
      intro hc
      obtain ⟨r, r1, r2, r3⟩ := ih (gs ++ [(x[i]).f2[j]]) (by rw [List.length_append, List.length_singleton]; omega) (by rw [htk]; exact hs.append (List.Sublist.refl _)) (fun q hq hqj e => by
        by_cases eq : q = j
        · subst eq
          simp
        · exact List.mem_append_left _ (hm q hq (by omega) e))
      refine ⟨r, r1, r2, Ev.step ?_⟩
      simp only [impl_Prune.l0, rd52 x i hi, rd56 (x[i]).f2 j hj, hw (), upN j (by omega)]
      refine Ev.pos (by omega) (Ev.pos (by omega) (Ev.pos (by omega) (Ev.pos (by omega) (Ev.pos (by omega) ?_))))
      by_cases e : ((x[i]).f2[j]).f0 = (x[i]).f1
      · exact Ev.pos e (Ev.pos (by omega) r3)
      · exact Ev.neg e (Ev.pos (by rcases hc with hc | hc; exact absurd hc e; exact hc) (Ev.pos (by omega) r3))
    by_cases c1 : ((x[i]).f2[j]).f0 = (x[i]).f1
    · exact add (Or.inl c1)
    by_cases c2 : ((x[i]).f2.length : Int) - j ≤ 1
    · exact add (Or.inr c2)
    · obtain ⟨r, r1, r2, r3⟩ := ih gs (by omega) (by rw [htk]; exact hs.trans (List.sublist_append_left _ _)) (fun q hq hqj e => by
        by_cases eq : q = j
        · subst eq
          exact absurd e c1
        · exact hm q hq (by omega) e)
      refine ⟨r, r1, r2, Ev.step ?_⟩
      simp only [impl_Prune.l0, rd52 x i hi, rd56 (x[i]).f2 j hj, hw (), upN j (by omega)]
      exact Ev.pos (by omega) (Ev.pos (by omega) (Ev.pos (by omega) (Ev.pos (by omega) (Ev.pos (by omega) (Ev.neg c1 (Ev.neg c2 r3))))))

-- EvP
def EvP {α : Type} (P : α → Prop) (f : Nat → Option α) : Prop := ∃ r, P r ∧ Ev f r
theorem EvP.step {α : Type} {P : α → Prop} {f : Nat → Option α} (h : EvP P (fun k => f (k + 1))) : EvP P f := h.imp fun _ h => ⟨h.1, Ev.step h.2⟩
theorem EvP.pos {α : Type} {P : α → Prop} {c : Prop} [Decidable c] {f g : Nat → Option α} (hc : c) (h : EvP P f) : EvP P (fun k => if c then f k else g k) := h.imp fun _ h => ⟨h.1, Ev.pos hc h.2⟩
theorem EvP.neg {α : Type} {P : α → Prop} {c : Prop} [Decidable c] {f g : Nat → Option α} (hc : ¬ c) (h : EvP P g) : EvP P (fun k => if c then f k else g k) := h.imp fun _ h => ⟨h.1, Ev.neg hc h.2⟩
theorem EvP.cons {α β : Type} {P : β → Prop} {x : Option α} {g : Nat → α → Option β} {a : α} (h : x = some a) (h2 : EvP P (fun k => g k a)) : EvP P (fun k => x.bind (g k)) := h2.imp fun _ h2 => ⟨h2.1, Ev.cons h h2.2⟩
theorem EvP.bind {α β : Type} {P : β → Prop} {f : Nat → Option α} {g : Nat → α → Option β} {a : α} (h : Ev f a) (h2 : EvP P (fun k => g k a)) : EvP P (fun k => (f k).bind (g k)) := h2.imp fun _ h2 => ⟨h2.1, Ev.bind h h2.2⟩
theorem EvP.pure {α : Type} {P : α → Prop} {r : α} (h : P r) : EvP P (fun _ => some r) := ⟨r, h, Ev.pure⟩

-- Digit
theorem l2Int_1 (b : Int) (h0 : 0 ≤ b) (h1 : b ≤ 9) : ∃ s : ByteArray, s.size ≤ 1000 ∧ Ev (fun k => spec_l2Int.f k b) s := by
  refine ⟨(strOfNums [(wrap64 (48 + b)) % 256]) ++ (⟨#[]⟩ : ByteArray), ?_, ?_⟩
  · rw [ByteArray.size_append, strOfNums_size]
    show 1 + 0 ≤ 1000
    omega
  · unfold spec_l2Int.f
    refine Ev.step ?_
    simp only [spec_l2Int.l0]
    refine Ev.neg (by omega) (Ev.cons rfl (Ev.pos ?_ Ev.pure))
    rw [strOfNums_size]
    show 1 + 0 ≤ 9223372036854775807
    omega

-- Draw1
theorem and255 (x : Int) : 0 ≤ Go.bits .and .i64 x 255 ∧ Go.bits .and .i64 x 255 ≤ 255 := by
  unfold Go.bits
  have h : ((BitVec.ofInt IntKind.i64.bits x) &&& (BitVec.ofInt IntKind.i64.bits 255)).toNat ≤ 255 := by
    rw [BitVec.toNat_and]
    exact Nat.le_trans Nat.and_le_right (by decide)
  simp only []
  rw [i64w _ (by omega) (by omega)]
  omega
theorem l1New_f (l : List Int) (hl : l.length ≤ 1048576) : ∃ h, ∀ k, l.length < k → spec_l1New.f k l = some (l, 0, h) := by
  have key : ∀ (d : Nat) (h i : Int), 0 ≤ i → i ≤ l.length → (l.length : Int) - i = d → ∃ h', ∀ k, d < k → spec_l1New.l0 k l h i = some (l, 0, h') := by
    intro d
    induction d with
    | zero =>
      intro h i h0 h1 hd
      refine ⟨h, fun k hk => ?_⟩
      obtain ⟨k, rfl⟩ : ∃ m, k = m + 1 := ⟨k - 1, by omega⟩
      simp only [spec_l1New.l0]; rw [if_neg (by omega)]
    | succ d ih =>
      intro h i h0 h1 hd
      obtain ⟨h', hh⟩ := ih (Go.bits .and .i64 (wrap64 ((wrap64 ((wrap64 (h * 139)) + (wrap64 (rd l i)))) + 13)) 1073741823) (i + 1) (by omega) (by omega) (by omega)
      refine ⟨h', fun k hk => ?_⟩
      obtain ⟨k, rfl⟩ : ∃ m, k = m + 1 := ⟨k - 1, by omega⟩
      simp only [spec_l1New.l0]; rw [if_pos (by omega), if_pos h0, up1 i h0 (by omega)]
      exact hh k (by omega)
  exact key l.length (wrap64 (57731 + (l.length : Int))) 0 (by omega) (by omega) (by omega)
theorem l1Byte_f (l : List Int) (hl : l.length ≤ 1048576) (i h : Int) (h0 : 0 ≤ i) (h1 : i ≤ l.length) : ∃ b i' h' : Int, 0 ≤ b ∧ b ≤ 255 ∧ 0 ≤ i' ∧ i' ≤ l.length ∧ spec_l1Byte.f l i h = some (b, i', h') := by
  unfold spec_l1Byte.f
  by_cases hc : i < (l.length : Int)
  · rw [if_pos hc, if_pos h0, up1 i h0 (by omega)]
    exact ⟨_, _, _, (and255 _).1, (and255 _).2, by omega, by omega, rfl⟩
  · rw [if_neg hc]
    exact ⟨_, _, _, (and255 _).1, (and255 _).2, h0, h1, rfl⟩
theorem l1Below_f (l : List Int) (hl : l.length ≤ 1048576) (i h n : Int) (h0 : 0 ≤ i) (h1 : i ≤ l.length) : ∃ b i' h' : Int, 0 ≤ b ∧ (0 < n → b < n) ∧ (n ≤ 0 → b = 0) ∧ 0 ≤ i' ∧ i' ≤ l.length ∧ spec_l1Below.f l i h n = some (b, i', h') := by
  unfold spec_l1Below.f
  by_cases hn : n ≤ 0
  · rw [if_pos hn]; exact ⟨0, i, h, by omega, by omega, fun _ => rfl, h0, h1, rfl⟩
  · rw [if_neg hn]
    obtain ⟨b1, i1, g1, a0, a1, c0, c1, e1⟩ := l1Byte_f l hl i h h0 h1
    rw [e1]
    simp only [Option.bind_some]
    by_cases h256 : n ≤ 256
    · rw [if_pos h256, if_neg (by omega), Int.tmod_eq_emod_of_nonneg a0]
      exact ⟨_, _, _, Int.emod_nonneg _ (by omega), fun hp => Int.emod_lt_of_pos _ hp, by omega, c0, c1, rfl⟩
    · rw [if_neg h256]
      obtain ⟨b2, i2, g2, a2, a3, c2, c3, e2⟩ := l1Byte_f l hl i1 g1 c0 c1
      rw [e2]
      simp only [Option.bind_some]
      obtain ⟨b3, i3, g3, a4, a5, c4, c5, e3⟩ := l1Byte_f l hl i2 g2 c2 c3
      rw [e3]
      simp only [Option.bind_some]
      obtain ⟨b4, i4, g4, a6, a7, c6, c7, e4⟩ := l1Byte_f l hl i3 g3 c4 c5
      rw [e4]
      simp only [Option.bind_some]
      rw [if_neg (by omega), w64 (b1 * 16777216) (by omega) (by omega), w64 (b2 * 65536) (by omega) (by omega), w64 (b3 * 256) (by omega) (by omega), w64 (b1 * 16777216 + b2 * 65536) (by omega) (by omega),
        w64 (b1 * 16777216 + b2 * 65536 + b3 * 256) (by omega) (by omega), w64 (b1 * 16777216 + b2 * 65536 + b3 * 256 + b4) (by omega) (by omega), Int.tmod_eq_emod_of_nonneg (by omega)]
      exact ⟨_, _, _, Int.emod_nonneg _ (by omega), fun hp => Int.emod_lt_of_pos _ hp, by omega, c6, c7, rfl⟩
theorem l1Once_f (l : List Int) (hl : l.length ≤ 1048576) (i h n : Int) (h0 : 0 ≤ i) (h1 : i ≤ l.length) : ∃ (b : Bool) (i' h' : Int), 0 ≤ i' ∧ i' ≤ l.length ∧ spec_l1Once.f l i h n = some (b, i', h') := by
  unfold spec_l1Once.f
  obtain ⟨b1, i1, g1, _, _, _, c0, c1, e1⟩ := l1Below_f l hl i h n h0 h1
  rw [e1]
  exact ⟨_, _, _, c0, c1, rfl⟩

-- SumS
theorem sum_tailS (h : Int) : ∃ r, (0 ≤ r ∧ r < 18446744073709551616) ∧ ∀ k, spec_Sum.l1 (k + 4) h 0 = some r := by
  have w1 : wrap64 (0 + 1) = 1 := by unfold wrap64; omega
  have w2 : wrap64 (1 + 1) = 2 := by unfold wrap64; omega
  have w3 : wrap64 (2 + 1) = 3 := by unfold wrap64; omega
  simp only [spec_Sum.l1, w1, w2, w3]
  exact ⟨_, ⟨u64_lo _, u64_hi _⟩, fun k => rfl⟩
theorem sum_S (x : List Int) (hx : x.length ≤ 140737488355328) (d : Nat) : ∀ (k : Nat) (h i : Int), 0 ≤ i → i ≤ x.length → (x.length : Int) - i = d → d + 5 < k →
    ∃ r, (0 ≤ r ∧ r < 18446744073709551616) ∧ spec_Sum.l0 k x h i = some r := by
  induction d with
  | zero =>
    intro k h i h0 h1 hd hk
    obtain ⟨k, rfl⟩ : ∃ m, k = m + 1 := ⟨k - 1, by omega⟩
    obtain ⟨k, rfl⟩ : ∃ m, k = m + 4 := ⟨k - 4, by omega⟩
    obtain ⟨r, hb, hr⟩ := sum_tailS h
    refine ⟨r, hb, ?_⟩
    simp only [spec_Sum.l0]; rw [if_neg (by omega)]; exact hr k
  | succ d ih =>
    intro k h i h0 h1 hd hk
    obtain ⟨k, rfl⟩ : ∃ m, k = m + 1 := ⟨k - 1, by omega⟩
    have e1 : spec_Sum.l0 (k + 1) x h i = spec_Sum.l0 k x (IntKind.u64.wrap ((Go.bits .xor .u64 h (IntKind.u64.wrap (rd x i))) * 1099511628211)) (i + 1) := by
      simp only [spec_Sum.l0]; rw [if_pos (by omega), if_pos h0, up1 i h0 (by omega)]
    rw [e1]
    exact ih k _ _ (by omega) (by omega) (by omega) (by omega)
theorem SumS_f (x : List Int) (hx : x.length ≤ 140737488355328) : ∃ r, 0 ≤ r ∧ r < 18446744073709551616 ∧ ∀ k, x.length + 6 ≤ k → spec_Sum.f k x = some r := by
  obtain ⟨r, hb, h2⟩ := sum_S x hx x.length (x.length + 6) 14695981039346656037 0 (by omega) (by omega) (by omega) (by omega)
  have h2' : spec_Sum.f (x.length + 6) x = some r := h2
  exact ⟨r, hb.1, hb.2, fun k hk => at_rounds (g := fun k => spec_Sum.f k x) (fun k => spec_Sum.mono x k) hk h2'⟩

-- Word32S
theorem spec_Word32_loop (x : Int) (h0 : 0 ≤ x) (h1 : x < 18446744073709551616) : ∀ (n : Nat) (k : Nat) (acc : List Int), n ≤ 13 → acc.length + n ≤ 13 → n < k →
    spec_Word32.l0 k x acc ((n : Int) - 1) = some (strOfNums (acc ++ ds x n)) := by
  intro n
  induction n with
  | zero =>
    intro k acc _ _ hk
    obtain ⟨k, rfl⟩ : ∃ m, k = m + 1 := ⟨k - 1, by omega⟩
    simp only [spec_Word32.l0]
    rw [if_neg (by omega)]
    simp [ds]
  | succ n ih =>
    intro k acc hn ha hk
    obtain ⟨k, rfl⟩ : ∃ m, k = m + 1 := ⟨k - 1, by omega⟩
    have e0 : (((n + 1 : Nat) : Int) - 1) = (n : Int) := by omega
    have e1 : IntKind.u64.wrap (wrap64 (5 * (n : Int))) = 5 * (n : Int) := by rw [w64 _ (by omega) (by omega), u64w _ (by omega) (by omega)]
    have d0 := div_lo x h0 (5 * n)
    have d1 := div_hi x h0 (5 * n)
    have e2 : Go.bits .and .u64 (shr .u64 x (5 * (n : Int))) 31 = x / 2 ^ (5 * n) % 32 := by rw [shr5 x n (by omega), and31 _ d0 (by omega)]
    rw [e0]
    simp only [spec_Word32.l0]
    rw [if_pos (by omega), e1, e2, if_pos (by omega), if_pos (by omega), if_pos (by omega), if_pos (by omega), w64 _ (by omega) (by omega)]
    rw [ih k _ (by omega) (by simp; omega) (by omega)]
    simp [ds, dg, alpha]
theorem spec_Word32_f (x : Int) (h0 : 0 ≤ x) (h1 : x < 18446744073709551616) (k : Nat) (hk : 13 < k) : spec_Word32.f k x = some (word x) := by
  have := spec_Word32_loop x h0 h1 13 k [] (by omega) (by simp) (by omega)
  exact this

-- HasW
def hasW (l : List ByteArray) (s : ByteArray) : Bool := l.any fun a => decide (a.toList = s.toList)
theorem hasW_iff (l : List ByteArray) (s : ByteArray) : hasW l s = true ↔ s ∈ l := by
  unfold hasW
  rw [List.any_eq_true]
  constructor
  · rintro ⟨a, ha, h⟩
    rw [← toList_inj (of_decide_eq_true h)]
    exact ha
  · intro h
    exact ⟨s, h, decide_eq_true rfl⟩

-- RdS
theorem rdStr (l : List ByteArray) (i : Nat) (h : i < l.length) : rdOf ByteArray.empty l (i : Int) = l[i] := by unfold rdOf; simp [List.getD_eq_getElem?_getD, List.getElem?_eq_getElem h]

-- LawHas
theorem lawHas_ev (l : List ByteArray) (s : ByteArray) (hl : l.length ≤ 1000000000) : Ev (fun k => laws_has.f k l s) (hasW l s) := by
  unfold laws_has.f
  have key := downTo l.length (fun i => Ev (fun k => laws_has.l0 k l s (i : Int)) (hasW (l.drop i) s)) ?_ ?_ 0 (by omega)
  · simpa using key
  · refine Ev.step ?_
    simp only [laws_has.l0, List.drop_length]
    exact Ev.neg (by omega) Ev.pure
  · intro i hi ih
    refine Ev.step ?_
    simp only [laws_has.l0, rdStr l i hi, upN i (by omega)]
    rw [List.drop_eq_getElem_cons hi]
    refine Ev.pos (by omega) (Ev.pos (by omega) ?_)
    by_cases c : (l[i]).toList = s.toList
    · have e : hasW (l[i] :: l.drop (i + 1)) s = true := by
        unfold hasW
        rw [List.any_cons, decide_eq_true c, Bool.true_or]
      rw [e]
      exact Ev.pos c Ev.pure
    · have e : hasW (l[i] :: l.drop (i + 1)) s = hasW (l.drop (i + 1)) s := by
        unfold hasW
        rw [List.any_cons, decide_eq_false c, Bool.false_or]
      rw [e]
      exact Ev.neg c ih

-- RollMain
theorem set_self {x : List S52} {i : Nat} (hi : i < x.length) (v : S52) : (x.set i v)[i]'(by simpa using hi) = v := List.getElem_set_self _
theorem cur_at {x : List S52} (h : okP x) {i : Nat} (hi : i < x.length) {v : S52} (e : x[i] = v) {q : Nat} (hq : q < v.f2.length) (e1 : (v.f2[q]).f0 = v.f1) : Ev (fun k => impl_Current.f k x v.f0) (v.f2[q]).f1 := by
  subst e
  exact cur_is h hi hq e1
theorem Rollback_v {x : List S52} (h : okP x) {i : Nat} (hi : i < x.length) {v : S52} (e0 : x[i] = v) {q : Nat} (hq : q + 1 < v.f2.length) (e : (v.f2[q + 1]).f0 = v.f1) :
    Ev (fun k => impl_Rollback.f k x v.f0) (x.set i ⟨v.f0, (v.f2[q]).f0, v.f2⟩, true) := by
  subst e0
  exact Rollback_at h hi hq e
theorem Sw_facts {x r : List S52} {n path : ByteArray} (hx : okP x) (h : SwOut x n path r) : okP r ∧ ∃ i, ∃ hi : i < r.length, ∃ v, r[i] = v ∧ v.f0 = n ∧ (∃ q, ∃ hq : q < v.f2.length, (v.f2[q]).f0 = v.f1 ∧ (v.f2[q]).f1 = path) ∧
    (r = x ∨ ∃ G m, v = ⟨n, m, G ++ [⟨m, path⟩]⟩ ∧ ∀ j (hj : j < x.length), (x[j]).f0 = n → (x[j]).f2 = G) := by
  have last : ∀ (G : List S56) (m : Int), ∃ q, ∃ hq : q < (⟨n, m, G ++ [⟨m, path⟩]⟩ : S52).f2.length, (((⟨n, m, G ++ [⟨m, path⟩]⟩ : S52).f2)[q]).f0 = m ∧ (((⟨n, m, G ++ [⟨m, path⟩]⟩ : S52).f2)[q]).f1 = path := fun G m => ⟨G.length, by simp, by simp, by simp⟩
  rcases h with ⟨rfl, i, hi, hn, hq⟩ | ⟨hr, i, m, hi, hn, rfl⟩ | ⟨hr, hno, i, m, hi, rfl⟩
  · exact ⟨hx, i, hi, _, rfl, hn, hq, Or.inl rfl⟩
  · refine ⟨hr, i, by simpa using hi, _, set_self hi _, rfl, last _ m, Or.inr ⟨(x[i]).f2, m, rfl, fun j hj e => ?_⟩⟩
    have := hx.inj hj hi (e.trans hn.symm)
    subst this
    rfl
  · have hl : i < (insAt x i n).length := by rw [insAt_len x i n hi]; omega
    exact ⟨hr, i, by simpa using hl, _, set_self hl _, rfl, last [] m, Or.inr ⟨[], m, rfl, fun j hj e => absurd e (hno j hj)⟩⟩
def Sm (x : List S52) : Prop := x.length ≤ 20 ∧ ∀ p ∈ x, p.f2.length ≤ 50
theorem okP.sm {x : List S52} (h : okP x) : Sm x := ⟨h.1, h.len⟩
/-! ### Roots -/
theorem insS_len1 (l : List ByteArray) (s : ByteArray) : (insS l s).length ≤ l.length + 1 := by
  induction l with
  | nil => simp [insS]
  | cons a r ih =>
    unfold insS
    split
    · rw [List.length_cons, List.length_cons]
      omega
    · split
      · omega
      · simp
theorem fold_ins (l : List ByteArray) : ∀ a : List ByteArray, (l.foldl insS a).length ≤ a.length + l.length ∧ ∀ s, s ∈ l.foldl insS a ↔ s ∈ a ∨ s ∈ l := by
  induction l with
  | nil => intro a; simp
  | cons b r ih =>
    intro a
    obtain ⟨h1, h2⟩ := ih (insS a b)
    have h3 := insS_len1 a b
    rw [List.foldl_cons]
    refine ⟨by rw [List.length_cons]; omega, fun s => ?_⟩
    rw [h2, mem_insS, List.mem_cons, or_assoc]
theorem ad_size (s : ByteArray) (h : adOk s = true) : s.size ≤ 100 := by
  unfold adOk at h
  rw [Bool.and_eq_true] at h
  have h2 := h.2
  unfold nmOk at h2
  simp only [Bool.and_eq_true, decide_eq_true_eq] at h2
  have h3 := h2.1.1.2
  rw [ByteArray.size_extract] at h3
  omega
theorem Roots_at {x : List S52} (h : okP x) : ∃ R, Ev (fun k => impl_Roots.f k x []) R ∧ R.length ≤ 1000000 ∧ ∀ i (hi : i < x.length) q (hq : q < (x[i]).f2.length), ((x[i]).f2[q]).f1 ∈ R := by
  obtain ⟨b, hb, _, b2⟩ := ProfilesOk_iff x
  have c : b = true := hb.2 h
  have hl := h.1
  have key := downTo x.length (fun i => ∀ acc : List ByteArray, acc.length ≤ 50 * i → (∀ s ∈ acc, s.size ≤ 100) → ∃ R, Ev (fun k => impl_Roots.l0 k [] acc x (x.length : Int) (i : Int)) R ∧ R.length ≤ 1000000 ∧ (∀ s ∈ acc, s ∈ R) ∧ ∀ j (hj : j < x.length), i ≤ j → ∀ q (hq : q < (x[j]).f2.length), ((x[j]).f2[q]).f1 ∈ R) ?_ ?_ 0 (by omega) [] (by simp) (by simp)
  · obtain ⟨R, r1, r2, _, r3⟩ := key
    refine ⟨R, ?_, r2, fun i hi q hq => r3 i hi (by omega) q hq⟩
    unfold impl_Roots.f
    refine Ev.bind b2 (Ev.pos c (Ev.step ?_))
    simp only [impl_Roots.j0]
    exact Ev.neg (by simp) r1
  · intro acc ha hs
    obtain ⟨f1, f2⟩ := fold_ins acc []
    refine ⟨acc.foldl insS [], Ev.step ?_, by simp only [List.length_nil] at f1; omega, fun s hs => (f2 s).2 (Or.inr hs), fun j hj h2 => by omega⟩
    simp only [impl_Roots.l0]
    refine Ev.neg (by omega) (Ev.step ?_)
    simp only [impl_Roots.l2]
    refine Ev.neg (by simp) (Ev.cons ?_ Ev.pure)
    unfold impl_sortedSet.f
    have mx : maxLen = 9223372036854775807 := by decide
    rw [if_pos ⟨by omega, List.all_eq_true.2 fun s h => decide_eq_true (by have := hs s h; omega)⟩]
  · intro i hi ih acc ha hs
    have g := h.gens hi
    have gl := h.len _ (List.getElem_mem hi)
    have key := downTo (x[i]).f2.length (fun j => ∀ acc : List ByteArray, acc.length ≤ 50 * i + j → (∀ s ∈ acc, s.size ≤ 100) → ∃ R, Ev (fun k => impl_Roots.l1 k [] acc x (x.length : Int) (i : Int) (x[i]).f2 ((x[i]).f2.length : Int) (j : Int)) R ∧ R.length ≤ 1000000 ∧ (∀ s ∈ acc, s ∈ R) ∧ (∀ q (hq : q < (x[i]).f2.length), j ≤ q → ((x[i]).f2[q]).f1 ∈ R) ∧ ∀ p (hp : p < x.length), i + 1 ≤ p → ∀ q (hq : q < (x[p]).f2.length), ((x[p]).f2[q]).f1 ∈ R) ?_ ?_ 0 (by omega) acc (by omega) hs
    · obtain ⟨R, r1, r2, r3, r4, r5⟩ := key
      refine ⟨R, Ev.step ?_, r2, r3, fun p hp hip => ?_⟩
      · simp only [impl_Roots.l0, rd52 x i hi]
        exact Ev.pos (by omega) (Ev.pos (by omega) (Ev.pos (by omega) r1))
      · rcases Nat.eq_or_lt_of_le hip with rfl | h6
        · exact fun q hq => r4 q hq (by omega)
        · exact r5 p hp h6
    · intro acc ha hs
      obtain ⟨R, r1, r2, r3, r4⟩ := ih acc (by omega) hs
      refine ⟨R, Ev.step ?_, r2, r3, fun q hq h2 => by omega, r4⟩
      simp only [impl_Roots.l1, upN i (by omega)]
      exact Ev.neg (by omega) r1
    · intro j hj ih2 acc ha hs
      have hz := ad_size _ (g.1 _ (List.getElem_mem hj)).2.2
      obtain ⟨R, r1, r2, r3, r4, r5⟩ := ih2 (acc ++ [((x[i]).f2[j]).f1]) (by rw [List.length_append, List.length_singleton]; omega) (fun s h => by
        rcases List.mem_append.1 h with h | h
        · exact hs s h
        · rw [List.mem_singleton.1 h]
          exact hz)
      refine ⟨R, Ev.step ?_, r2, fun s h => r3 s (List.mem_append_left _ h), fun q hq h2 => ?_, r5⟩
      · simp only [impl_Roots.l1, rd56 (x[i]).f2 j hj, upN j (by omega)]
        exact Ev.pos (by omega) (Ev.pos (by omega) (Ev.pos (by omega) (Ev.pos (by omega) r1)))
      · rcases Nat.eq_or_lt_of_le h2 with rfl | h6
        · exact r3 _ (by simp)
        · exact r4 q hq h6
theorem last_ev (x : List S52) (hx : x.length ≤ 1048576) (ok : ∀ p ∈ x, p.f2.length ≤ 1048576) (n : ByteArray) : ∃ b : Bool, Ev (fun k => laws_last.f k x n) b ∧ (b = true → ∃ j, ∃ hj : j < x.length, (x[j]).f0 = n ∧ ∃ p, ∃ hp : p < (x[j]).f2.length, p + 1 = (x[j]).f2.length ∧ ((x[j]).f2[p]).f0 = (x[j]).f1) := by
  unfold laws_last.f
  refine downTo x.length (fun i => ∃ b : Bool, Ev (fun k => laws_last.l0 k x n (i : Int)) b ∧ (b = true → ∃ j, ∃ hj : j < x.length, (x[j]).f0 = n ∧ ∃ p, ∃ hp : p < (x[j]).f2.length, p + 1 = (x[j]).f2.length ∧ ((x[j]).f2[p]).f0 = (x[j]).f1)) ?_ ?_ 0 (by omega)
  · refine ⟨false, Ev.step ?_, fun h => by cases h⟩
    simp only [laws_last.l0]
    exact Ev.neg (by omega) Ev.pure
  · intro i hi ⟨b, h1, h2⟩
    have gl := ok _ (List.getElem_mem hi)
    by_cases c : (x[i]).f0.toList = n.toList
    · by_cases d : 0 < (x[i]).f2.length
      · obtain ⟨p, hp⟩ : ∃ p, p + 1 = (x[i]).f2.length := ⟨(x[i]).f2.length - 1, by omega⟩
        have hw : wrap64 (((x[i]).f2.length : Int) - 1) = (p : Int) := by unfold wrap64; omega
        by_cases e : ((x[i]).f2[p]).f0 = (x[i]).f1
        · refine ⟨true, Ev.step ?_, fun _ => ⟨i, hi, toList_inj c, p, by omega, hp, e⟩⟩
          simp only [laws_last.l0, rd52 x i hi, hw, rd56 (x[i]).f2 p (by omega)]
          exact Ev.pos (by omega) (Ev.pos (by omega) (Ev.pos c (Ev.pos (by omega) (Ev.pos (by omega) (Ev.pos (by omega) (Ev.pos e Ev.pure))))))
        · refine ⟨b, Ev.step ?_, h2⟩
          simp only [laws_last.l0, rd52 x i hi, hw, rd56 (x[i]).f2 p (by omega), upN i (by omega)]
          exact Ev.pos (by omega) (Ev.pos (by omega) (Ev.pos c (Ev.pos (by omega) (Ev.pos (by omega) (Ev.pos (by omega) (Ev.neg e h1))))))
      · refine ⟨b, Ev.step ?_, h2⟩
        simp only [laws_last.l0, rd52 x i hi, upN i (by omega)]
        exact Ev.pos (by omega) (Ev.pos (by omega) (Ev.pos c (Ev.neg (by omega) h1)))
    · refine ⟨b, Ev.step ?_, h2⟩
      simp only [laws_last.l0, rd52 x i hi, upN i (by omega)]
      exact Ev.pos (by omega) (Ev.pos (by omega) (Ev.neg c h1))
/-! ### The draw -/
theorem path_f (a : Int) (h0 : 0 ≤ a) (h1 : a ≤ 9) : ∃ s, Ev (fun k => spec_l12DrawPath.f k a) s := by
  obtain ⟨d, d0, d1⟩ := l2Int_1 a h0 h1
  have bl : ∀ s : ByteArray, (bytesL s).length = s.size := by
    intro s
    unfold bytesL
    rw [List.length_map]
    exact Array.length_toList
  have z1 : (⟨#[111, 117, 116]⟩ : ByteArray).size = 3 := rfl
  have z2 : ((⟨#[112]⟩ : ByteArray) ++ d).size = 1 + d.size := by rw [ByteArray.size_append]; rfl
  have z3 : (⟨#[58]⟩ : ByteArray).size = 1 := rfl
  obtain ⟨t, t0, t1, ht⟩ := SumS_f (bytesL ((((⟨#[111, 117, 116]⟩ : ByteArray) ++ (⟨#[58]⟩ : ByteArray)) ++ ((⟨#[112]⟩ : ByteArray) ++ d)) ++ (⟨#[58]⟩ : ByteArray)) ++ [1]) (by
    rw [List.length_append, bl, ByteArray.size_append, ByteArray.size_append, ByteArray.size_append, z1, z2, z3, List.length_singleton]
    omega)
  refine ⟨(word t ++ (⟨#[45]⟩ : ByteArray)) ++ ((⟨#[112]⟩ : ByteArray) ++ d), ?_⟩
  unfold spec_l12DrawPath.f
  refine Ev.bind d1 (Ev.pos (by omega) (Ev.bind ?_ Ev.pure))
  unfold spec_l1Address.f
  exact Ev.pos (by rw [z1, z2]; show 3 + (1 + d.size) + 1 ≤ 100000000; omega) (Ev.bind (Ev.of _ fun k hk => ht k hk) (Ev.bind (Ev.of 14 fun k hk => spec_Word32_f t t0 t1 k (by omega)) (Ev.pos (by rw [word_size]; omega) Ev.pure)))
def PQ (l : List Int) (r : List S52 × Int × Int) : Prop := Fine r.1 ∧ 0 ≤ r.2.1 ∧ r.2.1 ≤ l.length
theorem Sm.fine {x : List S52} (h : Sm x) : Fine x := ⟨by have := h.1; omega, fun p hp => by have := h.2 p hp; omega⟩
theorem PQ_set {l : List Int} {x : List S52} {n : Nat} {v : S52} {i h : Int} (hx : Sm x) (hv : v.f2.length ≤ 51) (h0 : 0 ≤ i) (h1 : i ≤ l.length) : PQ l (x.set n v, i, h) := by
  refine ⟨⟨by have := hx.1; simp; omega, fun p hp => ?_⟩, h0, h1⟩
  rcases List.mem_or_eq_of_mem_set hp with hp | rfl
  · have := hx.2 p hp
    omega
  · omega
theorem l13Last_f (l : List Int) (hl : l.length ≤ 1048576) (x : List S52) (hx : Sm x) (b : Bool) (hb : b = true → 0 < x.length) (i h : Int) (h0 : 0 ≤ i) (h1 : i ≤ l.length) : EvP (PQ l) (fun k => spec_l13Draw.j1 k x b l i h) := by
  have hxl := hx.1
  refine EvP.step ?_
  simp only [spec_l13Draw.j1]
  by_cases c : b = true
  · obtain ⟨t, i1, g1, t0, t1, _, c0, c1, e1⟩ := l1Below_f l hl i h (x.length : Int) h0 h1
    have t1' := t1 (by have := hb c; omega)
    obtain ⟨n, rfl⟩ : ∃ n : Nat, t = (n : Int) := ⟨t.toNat, by omega⟩
    obtain ⟨d, i2, g2, d0, d1, _, c2, c3, e2⟩ := l1Below_f l hl i1 g1 4 c0 c1
    have hr := rd52 x n (by omega)
    have hd : (rd_T52 x (n : Int)).f2.length ≤ 50 := by
      rw [hr]
      exact hx.2 _ (List.getElem_mem _)
    refine EvP.pos c (EvP.cons e1 (EvP.pos t0 (EvP.pos t1' (EvP.cons e2 ?_))))
    by_cases q0 : d = 0
    · exact EvP.pos q0 (EvP.pure (PQ_set hx (by show (rd_T52 x (n : Int)).f2.length ≤ 51; omega) c2 c3))
    refine EvP.neg q0 ?_
    by_cases q1 : d = 1
    · exact EvP.pos q1 (EvP.pure (PQ_set hx (by show (rd_T52 x (n : Int)).f2.length ≤ 51; omega) c2 c3))
    refine EvP.neg q1 ?_
    by_cases q2 : d = 2
    · obtain ⟨e, i3, g3, f0, f1, _, c4, c5, e3⟩ := l1Below_f l hl i2 g2 2 c2 c3
      obtain ⟨s, hs⟩ := path_f 1 (by omega) (by omega)
      exact EvP.pos q2 (EvP.cons e3 (EvP.bind hs (EvP.pos (by show (rd_T52 x (n : Int)).f2.length < _; omega) (EvP.pure (PQ_set hx (by show ((rd_T52 x (n : Int)).f2 ++ _).length ≤ 51; rw [List.length_append, List.length_singleton]; omega) c4 c5)))))
    refine EvP.neg q2 ?_
    by_cases q3 : d = 3
    · exact EvP.pos q3 (EvP.pos (by show (rd_T52 x (n : Int)).f2.length < _; omega) (EvP.pure (PQ_set hx (by show ((rd_T52 x (n : Int)).f2 ++ _).length ≤ 51; rw [List.length_append, List.length_singleton]; omega) c2 c3)))
    exact EvP.neg q3 (EvP.pure ⟨hx.fine, c2, c3⟩)
  · exact EvP.neg c (EvP.pure ⟨hx.fine, h0, h1⟩)
theorem l13Draw_f (l : List Int) (hl : l.length ≤ 1048576) (i h : Int) (h0 : 0 ≤ i) (h1 : i ≤ l.length) : EvP (PQ l) (fun k => spec_l13Draw.f k l i h) := by
  have main : ∀ (m : Nat) (x : List S52) (i h : Int), m ≤ 10 → Sm x → 0 ≤ i → i ≤ l.length → EvP (PQ l) (fun k => spec_l13Draw.l0 k x (m : Int) l i h) := by
    intro m
    induction m with
    | zero =>
      intro x i h _ hx h0 h1
      obtain ⟨b, i1, g1, c0, c1, e1⟩ := l1Once_f l hl i h 12 h0 h1
      refine EvP.step ?_
      simp only [spec_l13Draw.l0]
      refine EvP.neg (by omega) (EvP.cons e1 ?_)
      by_cases c : b = true
      · exact EvP.pos c (l13Last_f l hl x hx _ (fun e => by have := of_decide_eq_true e; omega) i1 g1 c0 c1)
      · exact EvP.neg c (l13Last_f l hl x hx _ (fun e => by cases e) i1 g1 c0 c1)
    | succ m ih =>
      intro x i h hm hx h0 h1
      have hf := hx.fine
      have ew : wrap64 (((m + 1 : Nat) : Int) - 1) = (m : Int) := by unfold wrap64; omega
      obtain ⟨a, i1, g1, a0, a1, _, c0, c1, e1⟩ := l1Below_f l hl i h 3 h0 h1
      have a1' := a1 (by omega)
      obtain ⟨p, i2, g2, p0, p1, _, c2, c3, e2⟩ := l1Below_f l hl i1 g1 8 c0 c1
      have p1' := p1 (by omega)
      obtain ⟨s, hs⟩ := path_f p p0 (by omega)
      obtain ⟨d, i3, g3, d0, d1, _, c4, c5, e3⟩ := l1Below_f l hl i2 g2 5 c2 c3
      refine EvP.step ?_
      simp only [spec_l13Draw.l0, ew]
      refine EvP.pos (by omega) (EvP.cons rfl (EvP.cons e1 (EvP.pos a0 (EvP.pos (by show a < 3; omega) (EvP.cons e2 (EvP.bind hs ?_))))))
      show EvP (PQ l) (fun k => (spec_Switch.f k x (rdOf ByteArray.empty [(⟨#[109, 101]⟩ : ByteArray), (⟨#[115, 121, 115]⟩ : ByteArray), (⟨#[121, 111, 117]⟩ : ByteArray)] a) s).bind _)
      generalize rdOf ByteArray.empty [(⟨#[109, 101]⟩ : ByteArray), (⟨#[115, 121, 115]⟩ : ByteArray), (⟨#[121, 111, 117]⟩ : ByteArray)] a = n
      obtain ⟨r, b, r1, _, _, _, r2⟩ := Switch_at x n s hf.1 hf.2
      refine EvP.bind r1 (EvP.cons e3 ?_)
      by_cases q0 : d = 0
      · obtain ⟨y, c, y1, _, y2⟩ := Rollback_sm x n hx.1 hx.2
        refine EvP.pos q0 (EvP.bind y1 ?_)
        by_cases e : c = true
        · exact EvP.pos e (ih y i3 g3 (by omega) y2 c4 c5)
        · exact EvP.neg e (ih x i3 g3 (by omega) hx c4 c5)
      refine EvP.neg q0 ?_
      by_cases q1 : d = 1
      · obtain ⟨u, i4, g4, _, _, _, c6, c7, e4⟩ := l1Below_f l hl i3 g3 3 c4 c5
        obtain ⟨y, c, y1, _, y2⟩ := Prune_sm x n u hx.1 hx.2
        refine EvP.pos q1 (EvP.cons e4 (EvP.bind y1 ?_))
        by_cases e : c = true
        · exact EvP.pos e (ih y i4 g4 (by omega) y2 c6 c7)
        · exact EvP.neg e (ih x i4 g4 (by omega) hx c6 c7)
      refine EvP.neg q1 ?_
      by_cases e : b = true
      · obtain ⟨hk, hw⟩ := r2 e
        exact EvP.pos e (ih r i3 g3 (by omega) (Sw_facts hk hw).1.sm c4 c5)
      · exact EvP.neg e (ih x i3 g3 (by omega) hx c4 c5)
  obtain ⟨a, i1, g1, a0, a1, _, c0, c1, e1⟩ := l1Below_f l hl i h 10 h0 h1
  have a1' := a1 (by omega)
  obtain ⟨n, rfl⟩ : ∃ n : Nat, a = (n : Int) := ⟨a.toNat, by omega⟩
  unfold spec_l13Draw.f
  exact EvP.cons e1 (main n [] i1 g1 (by omega) ⟨by simp, by simp⟩ c0 c1)
theorem DrawSwitch_f (l : List Int) (hl : l.length ≤ 1048576) : ∃ (ps : List S52) (n p : ByteArray), Fine ps ∧ Ev (fun k => spec_DrawSwitch.f k l) (ps, n, p) := by
  obtain ⟨g0, e0⟩ := l1New_f l hl
  obtain ⟨⟨ps, i1, g1⟩, ⟨f, c0, c1⟩, e1⟩ := l13Draw_f l hl 0 g0 (by omega) (by omega)
  obtain ⟨a, i2, g2, a0, a1, _, c2, c3, e2⟩ := l1Below_f l hl i1 g1 5 c0 c1
  have a1' := a1 (by omega)
  have hn : ∃ n, spec_l13DrawName.f l i1 g1 = some (n, i2, g2) := by
    unfold spec_l13DrawName.f
    rw [Option.bind_some, e2, Option.bind_some]
    exact ⟨_, by rw [if_pos a0, if_pos (by show a < 5; omega)]⟩
  obtain ⟨n, hn⟩ := hn
  obtain ⟨d, i3, g3, d0, d1, _, c4, c5, e3⟩ := l1Below_f l hl i2 g2 8 c2 c3
  have d1' := d1 (by omega)
  obtain ⟨s, hs⟩ := path_f d d0 (by omega)
  obtain ⟨o, i4, g4, _, _, e4⟩ := l1Once_f l hl i3 g3 3 c4 c5
  obtain ⟨w, hw, _⟩ := cur_what ps f.1 f.2 n
  have start : Ev (fun k => spec_l1New.f k l) (l, 0, g0) := Ev.of (l.length + 1) (fun k hk => e0 k (by omega))
  unfold spec_DrawSwitch.f
  by_cases c : o = true
  · exact ⟨ps, n, w, f, Ev.bind start (Ev.bind e1 (Ev.cons hn (Ev.cons e3 (Ev.bind hs (Ev.cons e4 (Ev.pos c (Ev.bind hw Ev.pure)))))))⟩
  · exact ⟨ps, n, s, f, Ev.bind start (Ev.bind e1 (Ev.cons hn (Ev.cons e3 (Ev.bind hs (Ev.cons e4 (Ev.neg c Ev.pure))))))⟩

theorem prune_end {r : List S52} (hr : okP r) {i : Nat} (hi : i < r.length) {v : S52} (hv : r[i] = v) {n path : ByteArray} (hn : v.f0 = n) {q : Nat} (hq : q < v.f2.length) (e1 : (v.f2[q]).f0 = v.f1) (e2 : (v.f2[q]).f1 = path) :
    Ev (fun k => laws_FnRollBack.j1 k n path r false) true := by
  subst hv
  obtain ⟨gs, g1, g2, g3⟩ := Prune_at hr hi n hn
  have hm := g2 q hq e1
  have gg := hr.gens hi
  have gl := hr.len _ (List.getElem_mem hi)
  have pk := (hr.2 i hi).1
  have hz : okP (r.set i ⟨(r[i]).f0, (r[i]).f1, gs⟩) := okP_set hr hi rfl ⟨pk.1, Nat.le_trans g1.length_le gl, Or.inr (any_find.2 (by
    obtain ⟨p, hp, e⟩ := List.getElem_of_mem hm
    exact ⟨p, hp, by rw [e]; exact e1⟩)), (gens_iff gs).2 ⟨fun g hg => gg.1 g (g1.subset hg), gg.2.sublist g1⟩⟩
  obtain ⟨p, hp, e⟩ := List.getElem_of_mem hm
  have hc := cur_at hz (i := i) (by simpa using hi) (set_self hi _) (q := p) hp (by show (gs[p]).f0 = (r[i]).f1; rw [e]; exact e1)
  have hc' : Ev (fun k => impl_Current.f k (r.set i ⟨(r[i]).f0, (r[i]).f1, gs⟩) n) path := by
    have : (gs[p]).f1 = path := by rw [e]; exact e2
    rw [← this, ← hn]
    exact hc
  obtain ⟨b, hb, b1, _⟩ := ProfilesOk_iff (r.set i ⟨(r[i]).f0, (r[i]).f1, gs⟩)
  have hbt : b = true := hb.2 hz
  rw [hbt] at b1
  refine Ev.step ?_
  simp only [laws_FnRollBack.j1]
  exact Ev.neg (by simp) (Ev.bind g3 (Ev.pos rfl (Ev.bind hc' (Ev.pos rfl (Ev.bind b1 Ev.pure)))))
theorem back_end {ps r : List S52} (hp : Fine ps) {n path s : ByteArray} (hs : Ev (fun k => impl_Current.f k ps n) s)
    (hw : (s = (⟨#[]⟩ : ByteArray) ∧ (okP ps → ∀ i (hi : i < ps.length), (ps[i]).f0 = n → ∀ q (hq : q < (ps[i]).f2.length), ((ps[i]).f2[q]).f0 ≠ (ps[i]).f1)) ∨
      (okP ps ∧ ∃ i, ∃ hi : i < ps.length, (ps[i]).f0 = n ∧ ∃ q, ∃ hq : q < (ps[i]).f2.length, ((ps[i]).f2[q]).f0 = (ps[i]).f1 ∧ s = ((ps[i]).f2[q]).f1))
    (hr : okP r) (hc : Ev (fun k => impl_Current.f k r n) path) {i : Nat} (hi : i < r.length) {v : S52} (hv : r[i] = v) (hn : v.f0 = n)
    (hcase : r = ps ∨ ∃ G m, v = ⟨n, m, G ++ [⟨m, path⟩]⟩ ∧ ∀ j (hj : j < ps.length), (ps[j]).f0 = n → (ps[j]).f2 = G)
    (fin : Ev (fun k => laws_FnRollBack.j1 k n path r false) true) : Ev (fun k => laws_FnRollBack.j0 k ps n path s r false) true := by
  refine Ev.step ?_
  simp only [laws_FnRollBack.j0]
  refine Ev.neg (by simp) ?_
  obtain ⟨y, b, _, y1, _⟩ := Rollback_sm r n hr.1 hr.len
  by_cases h1 : s.toList = ([] : List UInt8)
  · exact Ev.bind y1 (Ev.pos h1 fin)
  by_cases h2 : s.toList = path.toList
  · exact Ev.bind y1 (Ev.neg h1 (Ev.pos h2 fin))
  obtain ⟨lb, l1, l2⟩ := last_ev ps hp.1 hp.2 n
  by_cases h3 : lb = true
  · obtain ⟨j, hj, ej, p, hpl, epl, ep⟩ := l2 h3
    rcases hw with ⟨e, _⟩ | ⟨hok, j', hj', ej', q, hq, eq, es⟩
    · exact absurd ((ba_nilList s).2 (by rw [e]; rfl)) h1
    · have := hok.inj hj' hj (ej'.trans ej.symm)
      subst this
      have := gens_inj (hok.gens hj') hq hpl (eq.trans ep.symm)
      subst this
      rcases hcase with rfl | ⟨G, m, rfl, hG⟩
      · have := hs.uniq hc
        exact absurd (by rw [this]) h2
      · have hGe := hG j' hj' ej
        have hGl : q + 1 = G.length := by rw [← hGe]; exact epl
        have gq : G[q]'(by omega) = (ps[j']).f2[q] := by
          subst hGe
          rfl
        have hlen : q + 1 < (⟨n, m, G ++ [⟨m, path⟩]⟩ : S52).f2.length := by
          show q + 1 < (G ++ [(⟨m, path⟩ : S56)]).length
          rw [List.length_append, List.length_singleton]
          omega
        have r1 := Rollback_v hr hi hv hlen (by
          show ((G ++ [(⟨m, path⟩ : S56)])[q + 1]).f0 = m
          rw [List.getElem_append_right (by omega)]
          simp [hGl])
        have gl : (G ++ [(⟨m, path⟩ : S56)])[q]'(by rw [List.length_append, List.length_singleton]; omega) = (ps[j']).f2[q] := by
          rw [List.getElem_append_left (by omega), gq]
        have pk := (hr.2 i hi).1
        rw [hv] at pk
        have hy : okP (r.set i ⟨n, ((G ++ [(⟨m, path⟩ : S56)])[q]'(by rw [List.length_append, List.length_singleton]; omega)).f0, G ++ [⟨m, path⟩]⟩) := okP_set hr hi (by rw [hv]) ⟨pk.1, pk.2.1, Or.inr (any_find.2 ⟨q, by show q < (G ++ [(⟨m, path⟩ : S56)]).length; rw [List.length_append, List.length_singleton]; omega, rfl⟩), pk.2.2.2⟩
        have hcy := cur_at hy (i := i) (by simpa using hi) (set_self hi _) (q := q) (by show q < (G ++ [(⟨m, path⟩ : S56)]).length; rw [List.length_append, List.length_singleton]; omega) rfl
        have hcy' : Ev (fun k => impl_Current.f k (r.set i ⟨n, ((G ++ [(⟨m, path⟩ : S56)])[q]'(by rw [List.length_append, List.length_singleton]; omega)).f0, G ++ [⟨m, path⟩]⟩) n) s := by
          rw [es, ← gl]
          exact hcy
        have hb : (s.toList != s.toList) = false := by simp
        rw [← hb] at fin
        exact Ev.bind r1 (Ev.neg h1 (Ev.neg h2 (Ev.bind l1 (Ev.pos h3 (Ev.pos rfl (Ev.bind hcy' fin))))))
  · exact Ev.bind y1 (Ev.neg h1 (Ev.neg h2 (Ev.bind l1 (Ev.neg h3 fin))))
theorem FnRollBack : laws_FnRollBack.Pure := by
  intro l _ _ _
  refine Ev.at ?_
  unfold laws_FnRollBack.f
  refine Ev.cons rfl ?_
  by_cases c : decide ((l.length : Int) > 1048576) = true
  · exact Ev.pos c Ev.pure
  have hl : l.length ≤ 1048576 := by
    have := of_decide_eq_false (Bool.eq_false_iff.mpr c)
    omega
  obtain ⟨b0, hb0, _, b02⟩ := ProfilesOk_iff []
  have e0 : b0 = true := hb0.2 ⟨by simp, fun i h => absurd h (by simp)⟩
  obtain ⟨ps, n, path, hf, hd⟩ := DrawSwitch_f l hl
  obtain ⟨s, _, hs, hw⟩ := cur_what ps hf.1 hf.2 n
  obtain ⟨r, b, s1, s2, s3, s4, s5⟩ := Switch_at ps n path hf.1 hf.2
  refine Ev.neg c (Ev.bind b02 (Ev.pos e0 (Ev.bind hd (Ev.bind hs (Ev.bind s2 (Ev.bind s1 (Ev.neg (by simp) ?_)))))))
  by_cases d : b = true
  · obtain ⟨hok, hsw⟩ := s5 d
    obtain ⟨hr, i, hi, v, hv, hn, ⟨q, hq, e1, e2⟩, hcase⟩ := Sw_facts hok hsw
    have hc : Ev (fun k => impl_Current.f k r n) path := by
      have := cur_at hr hi hv hq e1
      rw [hn, e2] at this
      exact this
    obtain ⟨rb, hrb, rb1, _⟩ := ProfilesOk_iff r
    have hrt : rb = true := hrb.2 hr
    obtain ⟨R, R1, R2, R3⟩ := Roots_at hr
    have hhas : hasW R path = true := (hasW_iff _ _).2 (by
      subst hv
      rw [← e2]
      exact R3 i hi q hq)
    have hl := lawHas_ev R path (by omega)
    rw [hhas] at hl
    exact Ev.pos d (Ev.bind rb1 (Ev.pos hrt (Ev.bind hc (Ev.pos rfl (Ev.bind R1 (Ev.bind hl (back_end hf hs hw hr hc hi hv hn hcase (prune_end hr hi hv hn hq e1 e2))))))))
  · refine Ev.neg d ?_
    have hb : (s.toList == s.toList) = true := by simp
    rcases s4 (by simpa using d) with rfl | rfl
    · exact Ev.pos rfl Ev.pure
    · by_cases g : (r.length : Int) = 0
      · exact Ev.pos g Ev.pure
      · refine Ev.neg g (Ev.bind hs ?_)
        show Ev (fun _ => some (s.toList == s.toList)) true
        rw [hb]
        exact Ev.pure

end Go.Proofs.Ytbgnjnlecpdfaaa.Pure
