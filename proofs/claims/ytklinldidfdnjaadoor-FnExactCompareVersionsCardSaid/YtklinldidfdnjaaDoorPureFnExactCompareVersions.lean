/- The pure statement of FnExactCompareVersions: both take versions apart alike, and compare the parts alike. -/
import Derived.Test.YtklinldidfdnjaaDoorPFnExactCompareVersionsx7
import Derived.Test.YtklinldidfdnjaaDoorPFnExactCompareVersionsx7
import Derived.Test.YtklinldidfdnjaaDoorPFnExactCompareVersionsx7
import Derived.Test.YtklinldidfdnjaaDoorPFnExactCompareVersionsx7
import Derived.Test.YtklinldidfdnjaaDoorPFnExactCompareVersionsx7
import Derived.Test.YtklinldidfdnjaaDoorPFnExactCompareVersionsx7
import Derived.Test.YtklinldidfdnjaaDoorPFnExactCompareVersionsx7
import Derived.Test.YtklinldidfdnjaaDoorPFnExactCompareVersionsx7
import Derived.Laws.BitsLemmas
import Derived.Laws.Bits64b
import Derived.Lib.Bytealg
namespace Go.Proofs.YtklinldidfdnjaaDoor.Pure
open Go.RowKit Go.Proofs.YtklinldidfdnjaaDoorW.PrintWords Go.Proofs.YtklinldidfdnjaaDoorW.PrintLast Go.Proofs.YtklinldidfdnjaaDoorW.PrintMore Go.Proofs.YtklinldidfdnjaaDoor.PFnExactCompareVersions

theorem u64w (n : Int) (h0 : 0 ≤ n) (h1 : n < 18446744073709551616) : IntKind.u64.wrap n = n := by
  simp [IntKind.wrap, IntKind.signed, IntKind.bits]; omega
theorem i64w (n : Int) (h0 : -9223372036854775808 ≤ n) (h1 : n < 9223372036854775808) : IntKind.i64.wrap n = n := by
  rw [IntKind.wrap_i64]; omega
theorem w64 (n : Int) (h0 : -9223372036854775808 ≤ n) (h1 : n < 9223372036854775808) : wrap64 n = n := by unfold wrap64; omega
theorem up1 (i : Int) (h0 : 0 ≤ i) (h : i < 9223372036854775807) : wrap64 (i + 1) = i + 1 := by unfold wrap64; omega
theorem u64_lo (n : Int) : 0 ≤ IntKind.u64.wrap n := by simp [IntKind.wrap, IntKind.signed, IntKind.bits]; omega
theorem u64_hi (n : Int) : IntKind.u64.wrap n < 18446744073709551616 := by simp [IntKind.wrap, IntKind.signed, IntKind.bits]; omega
theorem u64_wf (x : Int) (h : (Lit.int .u64 x).wf = true) : 0 ≤ x ∧ x < 18446744073709551616 := by
  simp [Lit.wf, IntKind.min, IntKind.max, IntKind.signed, IntKind.bits] at h; omega
theorem and31 (x : Int) (h0 : 0 ≤ x) (h1 : x < 18446744073709551616) : Go.bits .and .u64 x 31 = x % 32 := by
  have := bits_mask .u64 64 (by decide) (fun n a b => u64w n a (by simpa using b)) 5 (by decide) x h0 (by simpa using h1)
  simpa using this
theorem or5 (a c : Int) (h0 : 0 ≤ a) (h1 : a * 32 < 18446744073709551616) (hc0 : 0 ≤ c) (hc : c < 32) : Go.bits .or .u64 (a * 32) c = a * 32 + c := by
  have := bits_join .u64 64 (by decide) (fun n x y => u64w n x (by simpa using y)) 5 (a * 32) c (by omega) (by omega) (by simpa using h1) hc0 (by simpa using hc) (by simp; omega)
  exact this
theorem bt_list (l : List UInt8) (i : Int) : bt ⟨l.toArray⟩ i = ((l.getD i.toNat 0).toNat : Int) := by
  unfold bt
  split
  · rename_i h
    have h' : i.toNat < l.length := by simpa [ByteArray.size] using h
    rw [List.getD_eq_getElem?_getD, List.getElem?_eq_getElem h']
    rfl
  · rename_i h
    have h' : l.length ≤ i.toNat := by simpa [ByteArray.size] using h
    rw [List.getD_eq_getElem?_getD, List.getElem?_eq_none h']; rfl
/-- The alphabet of chapter 1. -/
def alpha : ByteArray := ⟨#[48, 49, 50, 51, 52, 53, 54, 55, 56, 57, 97, 98, 99, 100, 102, 103, 104, 105, 106, 107, 108, 109, 110, 112, 113, 114, 115, 118, 119, 120, 121, 122]⟩
/-- The n-th digit from the right, as its byte. -/
def dg (x : Int) (n : Nat) : Int := bt alpha (x / 2 ^ (5 * n) % 32)
/-- The last n digits. -/
def ds (x : Int) : Nat → List Int
  | 0 => []
  | n + 1 => dg x n :: ds x n
theorem ds_length (x : Int) : ∀ n, (ds x n).length = n
  | 0 => rfl
  | n + 1 => by simp [ds, ds_length x n]
/-- The thirteen bytes. -/
def word (x : Int) : ByteArray := strOfNums (ds x 13)
theorem div_lo (x : Int) (h0 : 0 ≤ x) (n : Nat) : 0 ≤ x / 2 ^ n := Int.ediv_nonneg h0 (by have := Nat.two_pow_pos n; exact_mod_cast Nat.zero_le _)
theorem div_hi (x : Int) (h0 : 0 ≤ x) (n : Nat) : x / 2 ^ n ≤ x := Int.ediv_le_self _ h0
theorem shr5 (x : Int) (n : Nat) (hn : n ≤ 12) : shr .u64 x (5 * n) = x / 2 ^ (5 * n) := by
  unfold shr
  have e : (5 * (n : Int)).toNat = 5 * n := by omega
  rw [e, Nat.min_eq_left (by simp [IntKind.bits]; omega)]
/-- What a byte is worth as a digit; -1: it is none. -/
def dv (c : Int) : Int := Lib.indexByte alpha.data.toList c.toNat.toUInt8
theorem dv_all : ∀ c : Fin 256, -1 ≤ dv (c.val : Int) ∧ dv (c.val : Int) < 32 := by decide +kernel
theorem dv_bounds (c : Int) (h0 : 0 ≤ c) (h1 : c ≤ 255) : -1 ≤ dv c ∧ dv c < 32 := by
  have := dv_all ⟨c.toNat, by omega⟩
  simpa [Int.toNat_of_nonneg h0] using this
/-- The number that thirteen digits tell, from the i-th on. -/
def rwGo (s : ByteArray) : Nat → Int → Nat → Int × Bool
  | 0, x, _ => (x, true)
  | d + 1, x, i => if dv (bt s i) < 0 then (0, false) else if i = 0 ∧ dv (bt s i) > 15 then (0, false) else rwGo s d (x * 32 + dv (bt s i)) (i + 1)
def rw32 (s : ByteArray) : Int × Bool := if s.size = 13 then rwGo s 13 0 0 else (0, false)
/-- The bound that the digits so far keep. -/
def lim (d : Nat) : Int := if d = 13 then 1 else 2 ^ (64 - 5 * d)
theorem lim_all : ∀ d : Fin 13, lim d.val ≤ 18446744073709551616 ∧ 0 < lim d.val ∧ (d.val < 12 → lim (d.val + 1) * 32 = lim d.val) ∧ (d.val = 12 → lim d.val = 16) ∧ lim (d.val + 1) * 32 ≤ 18446744073709551616 := by decide +kernel
theorem word_size (x : Int) : (word x).size = 13 := by unfold word; rw [strOfNums_size, ds_length]

-- Ev
/-- With fuel enough the run answers r. -/
def Ev {α : Type} (f : Nat → Option α) (r : α) : Prop := ∃ K, ∀ k, K ≤ k → f k = some r
theorem Ev.pure {α : Type} {r : α} : Ev (fun _ => some r) r := ⟨0, fun _ _ => rfl⟩
theorem Ev.of {α : Type} {f : Nat → Option α} {r : α} (N : Nat) (h : ∀ k, N ≤ k → f k = some r) : Ev f r := ⟨N, h⟩
theorem Ev.step {α : Type} {f : Nat → Option α} {r : α} (h : Ev (fun k => f (k + 1)) r) : Ev f r := by
  obtain ⟨K, h⟩ := h
  refine ⟨K + 1, fun k hk => ?_⟩
  obtain ⟨m, rfl⟩ : ∃ m, k = m + 1 := ⟨k - 1, by omega⟩
  exact h m (by omega)
theorem Ev.bind {α β : Type} {f : Nat → Option α} {g : Nat → α → Option β} {a : α} {r : β} (h : Ev f a) (h2 : Ev (fun k => g k a) r) : Ev (fun k => (f k).bind (g k)) r := by
  obtain ⟨K, h⟩ := h
  obtain ⟨K2, h2⟩ := h2
  refine ⟨K + K2, fun k hk => ?_⟩
  show (f k).bind (g k) = some r
  rw [h k (by omega)]
  exact h2 k (by omega)
theorem Ev.cons {α β : Type} {x : Option α} {g : Nat → α → Option β} {a : α} {r : β} (h : x = some a) (h2 : Ev (fun k => g k a) r) : Ev (fun k => x.bind (g k)) r := by
  subst h
  exact h2
theorem Ev.pos {α : Type} {c : Prop} [Decidable c] {f g : Nat → Option α} {r : α} (hc : c) (h : Ev f r) : Ev (fun k => if c then f k else g k) r := by
  simpa only [if_pos hc] using h
theorem Ev.neg {α : Type} {c : Prop} [Decidable c] {f g : Nat → Option α} {r : α} (hc : ¬ c) (h : Ev g r) : Ev (fun k => if c then f k else g k) r := by
  simpa only [if_neg hc] using h
theorem Ev.at {α : Type} {f : Nat → Option α} {r : α} (h : Ev f r) : ∃ k, f k = some r := by
  obtain ⟨K, h⟩ := h
  exact ⟨K, h K (Nat.le_refl _)⟩
theorem Ev.uniq {α : Type} {f : Nat → Option α} {r s : α} (h : Ev f r) (h2 : Ev f s) : r = s := by
  obtain ⟨K, h⟩ := h
  obtain ⟨K2, h2⟩ := h2
  have a := h (K + K2) (by omega)
  have b := h2 (K + K2) (by omega)
  rw [a] at b
  exact Option.some.inj b
/-- From the end down. -/
theorem downTo (n : Nat) (P : Nat → Prop) (base : P n) (step : ∀ i, i < n → P (i + 1) → P i) : ∀ i, i ≤ n → P i := by
  intro i hi
  obtain ⟨d, rfl⟩ : ∃ d, i = n - d := ⟨n - i, by omega⟩
  clear hi
  induction d with
  | zero => exact base
  | succ d ih =>
    by_cases h : d < n
    · refine step _ (by omega) ?_
      have e : n - (d + 1) + 1 = n - d := by omega
      rw [e]; exact ih
    · have e : n - (d + 1) = n - d := by omega
      rw [e]; exact ih
theorem upN (i : Nat) (h : i < 1000000000000000) : wrap64 ((i : Int) + 1) = ((i + 1 : Nat) : Int) := by unfold wrap64; omega
theorem dnN (i : Nat) (h : i < 1000000000000000) (h0 : 0 < i) : wrap64 ((i : Int) - 1) = ((i - 1 : Nat) : Int) := by unfold wrap64; omega
/-- A loop that sets place by place leaves the row's picture. -/
theorem setLoop {A B : Type} (L : Nat → List B → Int → Option (List B)) (x : List A) (c : A → B)
    (step : ∀ (i : Nat) (y : List B) (r : List B) (h : i < x.length), y.length = x.length → Ev (fun k => L k (y.set i (c x[i])) ((i + 1 : Nat) : Int)) r → Ev (fun k => L k y (i : Int)) r)
    (stop : ∀ y : List B, y.length = x.length → Ev (fun k => L k y ((x.length : Nat) : Int)) y) :
    ∀ y : List B, y.length = x.length → Ev (fun k => L k y 0) (x.map c) := by
  have main := downTo x.length (fun i => ∀ y : List B, y.length = x.length → y.take i = (x.map c).take i → Ev (fun k => L k y (i : Int)) (x.map c)) ?_ ?_
  · intro y hy
    exact main 0 (by omega) y hy (by simp)
  · intro y hy he
    rw [List.take_of_length_le (by omega), List.take_of_length_le (by simp)] at he
    have := stop y hy
    rw [he] at this
    rw [he] at hy
    exact he ▸ stop y (by rw [he]; exact hy)
  · intro i hi ih y hy he
    refine step i y _ hi hy (ih _ (by simp [hy]) ?_)
    rw [List.take_add_one, List.take_add_one, List.take_set_of_le (by omega), he, List.getElem?_set_self (by omega)]
    simp [List.getElem?_eq_getElem hi]
theorem countLoop {α : Type} (L : Nat → Int → Option α) (n : Nat) (r : α) (step : ∀ i : Nat, i < n → Ev (fun k => L k ((i + 1 : Nat) : Int)) r → Ev (fun k => L k (i : Int)) r) (stop : Ev (fun k => L k ((n : Nat) : Int)) r) : Ev (fun k => L k 0) r :=
  downTo n (fun i => Ev (fun k => L k (i : Int)) r) stop (fun i hi h => step i hi h) 0 (by omega)

-- Ex
theorem ex_data (s : ByteArray) (a b : Nat) : (s.extract a b).data.toList = (s.data.toList.drop a).take (b - a) := by rw [← Lib.toList_data, Lib.extract_toList]
theorem bt_ex (s : ByteArray) (a i : Nat) (h : a + i < s.size) : bt (s.extract a s.size) (i : Int) = bt s ((a + i : Nat) : Int) := by
  rw [← bt_at s ((a + i : Nat) : Int) (by rw [Int.toNat_natCast]; exact h), ← bt_at (s.extract a s.size) (i : Int) (by rw [ByteArray.size_extract]; simp; omega)]
  congr 2
  simp only [Int.toNat_natCast]
  rw [ByteArray.getElem_extract]

-- Parts
def cP (x : S95) : S62 := ⟨x.f1, x.f0⟩
def isD (c : Int) : Bool := decide (48 ≤ c) && decide (c ≤ 57)
def isL (c : Int) : Bool := (decide (97 ≤ c) && decide (c ≤ 122)) || (decide (65 ≤ c) && decide (c ≤ 90))
theorem sL (c : Int) : spec_l1Letter.f c = some (isL c) := by
  unfold spec_l1Letter.f isL
  by_cases h1 : 97 ≤ c <;> by_cases h2 : c ≤ 122 <;> by_cases h3 : 65 ≤ c <;> by_cases h4 : c ≤ 90 <;> simp [h1, h2, h3, h4] <;> omega
theorem sD (c : Int) : spec_l1Digit.f c = some (isD c) := by
  unfold spec_l1Digit.f isD
  by_cases h1 : 48 ≤ c <;> by_cases h2 : c ≤ 57 <;> simp [h1, h2]
theorem iL (c : Int) : impl_letter.f c = some (isL c) := by
  unfold impl_letter.f isL
  by_cases h1 : 97 ≤ c <;> by_cases h2 : c ≤ 122 <;> by_cases h3 : 65 ≤ c <;> by_cases h4 : c ≤ 90 <;> simp [h1, h2, h3, h4] <;> omega
theorem iD (c : Int) : impl_digit.f c = some (isD c) := by
  unfold impl_digit.f isD
  by_cases h1 : 48 ≤ c <;> by_cases h2 : c ≤ 57 <;> simp [h1, h2]
def nval (l : List UInt8) : Nat := l.foldl (fun a c => a * 10 + (c.toNat - 48)) 0
def allD (l : List UInt8) : Prop := ∀ c ∈ l, 48 ≤ c.toNat ∧ c.toNat ≤ 57
theorem nval_snoc (l : List UInt8) (c : UInt8) : nval (l ++ [c]) = nval l * 10 + (c.toNat - 48) := by simp [nval]
theorem nval_lt : ∀ (n : Nat) (l : List UInt8), l.length = n → allD l → nval l < 10 ^ n := by
  intro n
  induction n with
  | zero =>
    intro l hl _
    rw [List.length_eq_zero_iff.1 hl]
    decide
  | succ n ih =>
    intro l hl h
    rcases List.eq_nil_or_concat l with rfl | ⟨r, c, rfl⟩
    · simp at hl
    · rw [List.concat_eq_append] at hl h ⊢
      rw [nval_snoc, Nat.pow_succ]
      have h1 := ih r (by simpa using hl) (fun x hx => h x (List.mem_append_left _ hx))
      have h2 := h c (by simp)
      omega
theorem pM : ∀ (l : List UInt8) (acc a : Nat), allD l → acc < 10 ^ a → a + l.length ≤ 15 → Lib.parseUintM (2 ^ 64 - 1) acc l = .ok (l.foldl (fun a c => a * 10 + (c.toNat - 48)) acc)
  | [], acc, _, _, _, _ => rfl
  | c :: r, acc, a, h, ha, hl => by
    have h2 := h c (by simp)
    have hb : acc < 100000000000000 := Nat.lt_of_lt_of_le ha (Nat.pow_le_pow_right (by decide) (show a ≤ 14 by simp only [List.length_cons] at hl; omega))
    unfold Lib.parseUintM
    rw [if_pos h2, if_neg (by omega), if_neg (by omega)]
    exact pM r (acc * 10 + (c.toNat - 48)) (a + 1) (fun x hx => h x (List.mem_cons_of_mem _ hx)) (by rw [Nat.pow_succ]; omega) (by simp only [List.length_cons] at hl; omega)
theorem parse_digits (l : List UInt8) (h : allD l) (h0 : l ≠ []) (hl : l.length ≤ 15) : Lib.parseIntB 64 l = .ok (nval l : Int) := by
  have hp := pM l 0 0 h (by decide) (by omega)
  have hv := nval_lt _ l rfl h
  have hv2 : nval l < 1000000000000000 := Nat.lt_of_lt_of_le hv (Nat.pow_le_pow_right (by decide) hl)
  unfold Lib.parseIntB
  cases l with
  | nil => exact absurd rfl h0
  | cons c r =>
    have h2 := h c (by simp)
    have e1 : ¬ (c.toNat = 43 ∨ c.toNat = 45) := by omega
    have e2 : ¬ c.toNat = 45 := by omega
    simp only [if_neg e1]
    unfold Lib.parseUintB
    rw [if_neg h0, hp]
    have e3 : (List.foldl (fun a c => a * 10 + (c.toNat - 48)) 0 (c :: r)) = nval (c :: r) := rfl
    simp only [e3]
    rw [if_neg (by omega), if_neg (by omega), if_neg e2]
theorem sub_next (s : ByteArray) (i j : Nat) (hij : i ≤ j) (hj : j < s.size) : ∃ c : UInt8, (c.toNat : Int) = bt s (j : Int) ∧ (s.extract i (j + 1)).data.toList = (s.extract i j).data.toList ++ [c] := by
  have hl : j < s.data.toList.length := by rw [Array.length_toList]; exact hj
  refine ⟨s.data.toList[j], ?_, ?_⟩
  · rw [← bt_at s (j : Int) (by simpa using hj)]
    rfl
  · rw [ex_data, ex_data, show j + 1 - i = (j - i) + 1 by omega, List.take_add_one, List.getElem?_drop, show i + (j - i) = j by omega, List.getElem?_eq_getElem hl]
    rfl
theorem sub_len (s : ByteArray) (i j : Nat) (hij : i ≤ j) (hj : j ≤ s.size) : (s.extract i j).data.toList.length = j - i := by
  rw [Array.length_toList]
  show (s.extract i j).size = _
  rw [ByteArray.size_extract]
  omega
theorem sub_nil (s : ByteArray) (i : Nat) : (s.extract i i).data.toList = [] := by rw [ex_data]; simp
/-- What both readers come to from a place on. -/
def Same (s : ByteArray) (i : Nat) : Prop := ∀ acc : List S95, acc.length ≤ i → ∃ (l : List S95) (b : Bool) (l' : List S62), Ev (fun k => spec_l6Parts.l0 k s acc (i : Int)) (l, b) ∧ Ev (fun k => impl_parts.l0 k s (acc.map cP) (i : Int)) (l', b) ∧ (b = true → l' = l.map cP ∧ l.length ≤ s.size)
theorem far_off (s : ByteArray) (hs : s.size ≤ 30) (i : Nat) (a : List S62) : ∀ j, j ≤ s.size → i + 16 ≤ j → Ev (fun k => impl_parts.l1 k s a (i : Int) (j : Int)) (([] : List S62), false) := by
  refine downTo s.size (fun j => i + 16 ≤ j → Ev (fun k => impl_parts.l1 k s a (i : Int) (j : Int)) (([] : List S62), false)) ?_ ?_
  · intro h
    refine Ev.step ?_
    simp only [impl_parts.l1]
    have w : wrap64 ((s.size : Int) - (i : Int)) = (s.size : Int) - i := w64 _ (by omega) (by omega)
    simp only [w]
    exact Ev.neg (by omega) (Ev.pos (by omega) Ev.pure)
  · intro j hj ih h
    refine Ev.step ?_
    simp only [impl_parts.l1]
    have w : wrap64 ((j : Int) - (i : Int)) = (j : Int) - i := w64 _ (by omega) (by omega)
    simp only [w, iD, upN j (by omega)]
    refine Ev.pos (by omega) (Ev.pos (by omega) (Ev.cons rfl ?_))
    by_cases c : isD (bt s (j : Int)) = true
    · exact Ev.pos c (ih (by omega))
    · exact Ev.neg c (Ev.pos (by omega) Ev.pure)
theorem digits_run (s : ByteArray) (hs : s.size ≤ 30) (i : Nat) (hi : i < s.size) (hd : isD (bt s (i : Int)) = true) (ih : ∀ j, i < j → j ≤ s.size → Same s j) (acc : List S95) (ha : acc.length ≤ i) :
    ∀ j, j ≤ s.size → i ≤ j → j - i ≤ 15 → allD (s.extract i j).data.toList → ∃ (l : List S95) (b : Bool) (l' : List S62), Ev (fun k => spec_l6Parts.l1 k s acc (j : Int) (i : Int) (nval (s.extract i j).data.toList : Int)) (l, b) ∧ Ev (fun k => impl_parts.l1 k s (acc.map cP) (i : Int) (j : Int)) (l', b) ∧ (b = true → l' = l.map cP ∧ l.length ≤ s.size) := by
  have fin : ∀ j, j ≤ s.size → i < j → j - i ≤ 15 → allD (s.extract i j).data.toList → ∃ (l : List S95) (b : Bool) (l' : List S62), Ev (fun k => spec_l6Parts.l0 k s (acc ++ [(⟨(⟨#[]⟩ : ByteArray), (nval (s.extract i j).data.toList : Int)⟩ : S95)]) (j : Int)) (l, b) ∧
      Ev (fun k => (strconv_ParseInt.f (s.extract ((i : Int)).toNat ((j : Int)).toNat) 10 64).bind fun q => (if (acc.map cP).length < 5864062014805 then (impl_parts.l0 k s (acc.map cP ++ [(⟨q.1, (⟨#[]⟩ : ByteArray)⟩ : S62)]) (j : Int)) else none)) (l', b) ∧ (b = true → l' = l.map cP ∧ l.length ≤ s.size) := by
    intro j hj hij h15 hD
    obtain ⟨l, b, l', h1, h2, h3⟩ := ih j hij hj (acc ++ [(⟨(⟨#[]⟩ : ByteArray), (nval (s.extract i j).data.toList : Int)⟩ : S95)]) (by rw [List.length_append, List.length_singleton]; omega)
    refine ⟨l, b, l', h1, ?_, h3⟩
    have hlen := sub_len s i j (by omega) hj
    have hp : strconv_ParseInt.f (s.extract ((i : Int)).toNat ((j : Int)).toNat) 10 64 = some ((nval (s.extract i j).data.toList : Int), none) := by
      unfold strconv_ParseInt.f
      simp only [Int.toNat_natCast]
      rw [if_pos ⟨trivial, trivial, by rw [ByteArray.size_extract]; omega⟩, parse_digits _ hD (by intro e; rw [e] at hlen; simp at hlen; omega) (by omega)]
    refine Ev.cons hp (Ev.pos (by rw [List.length_map]; omega) ?_)
    rw [List.map_append] at h2
    exact h2
  refine downTo s.size (fun j => i ≤ j → j - i ≤ 15 → allD (s.extract i j).data.toList → ∃ (l : List S95) (b : Bool) (l' : List S62), Ev (fun k => spec_l6Parts.l1 k s acc (j : Int) (i : Int) (nval (s.extract i j).data.toList : Int)) (l, b) ∧ Ev (fun k => impl_parts.l1 k s (acc.map cP) (i : Int) (j : Int)) (l', b) ∧ (b = true → l' = l.map cP ∧ l.length ≤ s.size)) ?_ ?_
  · intro hij h15 hD
    obtain ⟨l, b, l', h1, h2, h3⟩ := fin s.size (Nat.le_refl _) hi h15 hD
    have w : wrap64 ((s.size : Int) - (i : Int)) = (s.size : Int) - i := w64 _ (by omega) (by omega)
    refine ⟨l, b, l', Ev.step ?_, Ev.step ?_, h3⟩
    · simp only [spec_l6Parts.l1]
      refine Ev.neg (by omega) (Ev.step ?_)
      simp only [spec_l6Parts.j3]
      exact Ev.neg (by simp) (Ev.pos (by omega) h1)
    · simp only [impl_parts.l1, w]
      exact Ev.neg (by omega) (Ev.neg (by omega) (Ev.pos (by omega) (Ev.pos (by omega) (Ev.pos (by omega) h2))))
  · intro j hj ihj hij h15 hD
    have w : wrap64 ((j : Int) - (i : Int)) = (j : Int) - i := w64 _ (by omega) (by omega)
    by_cases c : isD (bt s (j : Int)) = true
    · obtain ⟨ch, hc, hsub⟩ := sub_next s i j hij hj
      have hc2 : 48 ≤ ch.toNat ∧ ch.toNat ≤ 57 := by
        unfold isD at c
        rw [Bool.and_eq_true, decide_eq_true_eq, decide_eq_true_eq] at c
        omega
      have hD' : allD (s.extract i (j + 1)).data.toList := by
        rw [hsub]
        intro x hx
        rcases List.mem_append.1 hx with hx | hx
        · exact hD x hx
        · rw [List.mem_singleton.1 hx]; exact hc2
      have hlen := sub_len s i j hij (by omega)
      have hv := nval_lt _ _ hlen hD
      have hv2 : nval (s.extract i j).data.toList < 1000000000000000 := Nat.lt_of_lt_of_le hv (Nat.pow_le_pow_right (by decide) h15)
      have hn : wrap64 (wrap64 (((nval (s.extract i j).data.toList : Nat) : Int) * 10) + ((bt s (j : Int) - 48) % 256)) = ((nval (s.extract i (j + 1)).data.toList : Nat) : Int) := by
        rw [hsub, nval_snoc, w64 (_ * 10) (by omega) (by omega), ← hc, w64 _ (by omega) (by omega)]
        omega
      have w2 : wrap64 (((j + 1 : Nat) : Int) - (i : Int)) = ((j + 1 : Nat) : Int) - i := w64 _ (by omega) (by omega)
      by_cases c2 : j + 1 - i > 15
      · refine ⟨acc, false, [], Ev.step ?_, Ev.step ?_, by simp⟩
        · simp only [spec_l6Parts.l1, sD]
          refine Ev.pos (by omega) (Ev.pos (by omega) (Ev.cons rfl (Ev.step ?_)))
          simp only [spec_l6Parts.j3, upN j (by omega), w2]
          exact Ev.pos c (Ev.pos (by omega) (Ev.pos (by omega) (Ev.pos (by omega) Ev.pure)))
        · simp only [impl_parts.l1, iD, upN j (by omega)]
          exact Ev.pos (by omega) (Ev.pos (by omega) (Ev.cons rfl (Ev.pos c (far_off s hs i _ (j + 1) (by omega) (by omega)))))
      · obtain ⟨l, b, l', h1, h2, h3⟩ := ihj (by omega) (by omega) hD'
        refine ⟨l, b, l', Ev.step ?_, Ev.step ?_, h3⟩
        · simp only [spec_l6Parts.l1, sD]
          refine Ev.pos (by omega) (Ev.pos (by omega) (Ev.cons rfl (Ev.step ?_)))
          simp only [spec_l6Parts.j3, upN j (by omega), w2, hn]
          exact Ev.pos c (Ev.pos (by omega) (Ev.pos (by omega) (Ev.neg (by omega) h1)))
        · simp only [impl_parts.l1, iD, upN j (by omega)]
          exact Ev.pos (by omega) (Ev.pos (by omega) (Ev.cons rfl (Ev.pos c h2)))
    · have hij2 : i < j := by
        rcases Nat.lt_or_eq_of_le hij with h | h
        · exact h
        · subst h; exact absurd hd c
      obtain ⟨l, b, l', h1, h2, h3⟩ := fin j (by omega) hij2 h15 hD
      refine ⟨l, b, l', Ev.step ?_, Ev.step ?_, h3⟩
      · simp only [spec_l6Parts.l1, sD]
        refine Ev.pos (by omega) (Ev.pos (by omega) (Ev.cons rfl (Ev.step ?_)))
        simp only [spec_l6Parts.j3]
        exact Ev.neg c (Ev.pos (by omega) h1)
      · simp only [impl_parts.l1, iD, w]
        exact Ev.pos (by omega) (Ev.pos (by omega) (Ev.cons rfl (Ev.neg c (Ev.neg (by omega) (Ev.pos (by omega) (Ev.pos (by omega) (Ev.pos (by omega) h2)))))))
theorem letters_run (s : ByteArray) (hs : s.size ≤ 30) (i : Nat) (hi : i < s.size) (hd : isL (bt s (i : Int)) = true) (ih : ∀ j, i < j → j ≤ s.size → Same s j) (acc : List S95) (ha : acc.length ≤ i) :
    ∀ j, j ≤ s.size → i ≤ j → ∃ (l : List S95) (b : Bool) (l' : List S62), Ev (fun k => spec_l6Parts.l2 k s acc (j : Int) (i : Int)) (l, b) ∧ Ev (fun k => impl_parts.l2 k s (acc.map cP) (i : Int) (j : Int)) (l', b) ∧ (b = true → l' = l.map cP ∧ l.length ≤ s.size) := by
  have fin : ∀ j, j ≤ s.size → i < j → ∃ (l : List S95) (b : Bool) (l' : List S62), Ev (fun k => spec_l6Parts.l0 k s (acc ++ [(⟨s.extract ((i : Int)).toNat ((j : Int)).toNat, 0⟩ : S95)]) (j : Int)) (l, b) ∧
      Ev (fun k => impl_parts.l0 k s (acc.map cP ++ [(⟨0, s.extract ((i : Int)).toNat ((j : Int)).toNat⟩ : S62)]) (j : Int)) (l', b) ∧ (b = true → l' = l.map cP ∧ l.length ≤ s.size) := by
    intro j hj hij
    obtain ⟨l, b, l', h1, h2, h3⟩ := ih j hij hj (acc ++ [(⟨s.extract ((i : Int)).toNat ((j : Int)).toNat, 0⟩ : S95)]) (by rw [List.length_append, List.length_singleton]; omega)
    rw [List.map_append] at h2
    exact ⟨l, b, l', h1, h2, h3⟩
  refine downTo s.size (fun j => i ≤ j → ∃ (l : List S95) (b : Bool) (l' : List S62), Ev (fun k => spec_l6Parts.l2 k s acc (j : Int) (i : Int)) (l, b) ∧ Ev (fun k => impl_parts.l2 k s (acc.map cP) (i : Int) (j : Int)) (l', b) ∧ (b = true → l' = l.map cP ∧ l.length ≤ s.size)) ?_ ?_
  · intro hij
    obtain ⟨l, b, l', h1, h2, h3⟩ := fin s.size (Nat.le_refl _) hi
    refine ⟨l, b, l', Ev.step ?_, Ev.step ?_, h3⟩
    · simp only [spec_l6Parts.l2]
      exact Ev.neg (by omega) (Ev.pos (by omega) (Ev.pos (by omega) (Ev.pos (by omega) (Ev.pos (by omega) h1))))
    · simp only [impl_parts.l2]
      exact Ev.neg (by omega) (Ev.pos (by omega) (Ev.pos (by omega) (Ev.pos (by omega) (Ev.pos (by rw [List.length_map]; omega) h2))))
  · intro j hj ihj hij
    by_cases c : isL (bt s (j : Int)) = true
    · obtain ⟨l, b, l', h1, h2, h3⟩ := ihj (by omega)
      refine ⟨l, b, l', Ev.step ?_, Ev.step ?_, h3⟩
      · simp only [spec_l6Parts.l2, sL, upN j (by omega)]
        exact Ev.pos (by omega) (Ev.pos (by omega) (Ev.cons rfl (Ev.pos c h1)))
      · simp only [impl_parts.l2, iL, upN j (by omega)]
        exact Ev.pos (by omega) (Ev.pos (by omega) (Ev.cons rfl (Ev.pos c h2)))
    · have hij2 : i < j := by
        rcases Nat.lt_or_eq_of_le hij with h | h
        · exact h
        · subst h; exact absurd hd c
      obtain ⟨l, b, l', h1, h2, h3⟩ := fin j (by omega) hij2
      refine ⟨l, b, l', Ev.step ?_, Ev.step ?_, h3⟩
      · simp only [spec_l6Parts.l2, sL]
        exact Ev.pos (by omega) (Ev.pos (by omega) (Ev.cons rfl (Ev.neg c (Ev.pos (by omega) (Ev.pos (by omega) (Ev.pos (by omega) (Ev.pos (by omega) h1)))))))
      · simp only [impl_parts.l2, iL]
        exact Ev.pos (by omega) (Ev.pos (by omega) (Ev.cons rfl (Ev.neg c (Ev.pos (by omega) (Ev.pos (by omega) (Ev.pos (by omega) (Ev.pos (by rw [List.length_map]; omega) h2)))))))
theorem parts_same (s : ByteArray) (hs : s.size ≤ 30) : ∀ (d i : Nat), s.size - i ≤ d → i ≤ s.size → Same s i := by
  intro d
  induction d with
  | zero =>
    intro i hd hi acc ha
    have e : i = s.size := by omega
    subst e
    refine ⟨acc, true, acc.map cP, Ev.step ?_, Ev.step ?_, fun _ => ⟨rfl, ha⟩⟩
    · simp only [spec_l6Parts.l0]; exact Ev.neg (by omega) Ev.pure
    · simp only [impl_parts.l0]; exact Ev.neg (by omega) Ev.pure
  | succ d ih =>
    intro i hd hi acc ha
    by_cases hl : i < s.size
    · have ih' : ∀ j, i < j → j ≤ s.size → Same s j := fun j h1 h2 => ih j (by omega) h2
      by_cases c1 : isD (bt s (i : Int)) = true
      · obtain ⟨l, b, l', h1, h2, h3⟩ := digits_run s hs i hl c1 ih' acc ha i hi (Nat.le_refl _) (by omega) (by rw [sub_nil]; intro x hx; simp at hx)
        rw [sub_nil] at h1
        refine ⟨l, b, l', Ev.step ?_, Ev.step ?_, h3⟩
        · simp only [spec_l6Parts.l0, sD, sL]
          exact Ev.pos (by omega) (Ev.pos (by omega) (Ev.cons rfl (Ev.pos c1 h1)))
        · simp only [impl_parts.l0, iD, iL]
          exact Ev.pos (by omega) (Ev.pos (by omega) (Ev.cons rfl (Ev.pos c1 h2)))
      · by_cases c2 : isL (bt s (i : Int)) = true
        · obtain ⟨l, b, l', h1, h2, h3⟩ := letters_run s hs i hl c2 ih' acc ha i hi (Nat.le_refl _)
          refine ⟨l, b, l', Ev.step ?_, Ev.step ?_, h3⟩
          · simp only [spec_l6Parts.l0, sD, sL]
            exact Ev.pos (by omega) (Ev.pos (by omega) (Ev.cons rfl (Ev.neg c1 (Ev.cons rfl (Ev.pos c2 h1)))))
          · simp only [impl_parts.l0, iD, iL]
            exact Ev.pos (by omega) (Ev.pos (by omega) (Ev.cons rfl (Ev.neg c1 (Ev.cons rfl (Ev.pos c2 h2)))))
        · obtain ⟨l, b, l', h1, h2, h3⟩ := ih' (i + 1) (by omega) (by omega) acc (by omega)
          by_cases c3 : bt s (i : Int) = 46
          · refine ⟨l, b, l', Ev.step ?_, Ev.step ?_, h3⟩
            · simp only [spec_l6Parts.l0, sD, sL, upN i (by omega)]
              exact Ev.pos (by omega) (Ev.pos (by omega) (Ev.cons rfl (Ev.neg c1 (Ev.cons rfl (Ev.neg c2 (Ev.pos c3 h1))))))
            · simp only [impl_parts.l0, iD, iL, upN i (by omega)]
              exact Ev.pos (by omega) (Ev.pos (by omega) (Ev.cons rfl (Ev.neg c1 (Ev.cons rfl (Ev.neg c2 (Ev.pos c3 h2))))))
          · by_cases c4 : bt s (i : Int) = 45
            · refine ⟨l, b, l', Ev.step ?_, Ev.step ?_, h3⟩
              · simp only [spec_l6Parts.l0, sD, sL, upN i (by omega)]
                exact Ev.pos (by omega) (Ev.pos (by omega) (Ev.cons rfl (Ev.neg c1 (Ev.cons rfl (Ev.neg c2 (Ev.neg c3 (Ev.pos c4 h1)))))))
              · simp only [impl_parts.l0, iD, iL, upN i (by omega)]
                exact Ev.pos (by omega) (Ev.pos (by omega) (Ev.cons rfl (Ev.neg c1 (Ev.cons rfl (Ev.neg c2 (Ev.neg c3 (Ev.pos c4 h2)))))))
            · refine ⟨acc, false, [], Ev.step ?_, Ev.step ?_, by simp⟩
              · simp only [spec_l6Parts.l0, sD, sL, upN i (by omega)]
                exact Ev.pos (by omega) (Ev.pos (by omega) (Ev.cons rfl (Ev.neg c1 (Ev.cons rfl (Ev.neg c2 (Ev.neg c3 (Ev.neg c4 Ev.pure)))))))
              · simp only [impl_parts.l0, iD, iL, upN i (by omega)]
                exact Ev.pos (by omega) (Ev.pos (by omega) (Ev.cons rfl (Ev.neg c1 (Ev.cons rfl (Ev.neg c2 (Ev.neg c3 (Ev.neg c4 Ev.pure)))))))
    · have e : i = s.size := by omega
      exact ih i (by omega) hi acc ha
theorem Parts_ev (s : ByteArray) : ∃ (l : List S95) (b : Bool) (l' : List S62), Ev (fun k => spec_l6Parts.f k s) (l, b) ∧ Ev (fun k => impl_parts.f k s) (l', b) ∧ (b = true → l' = l.map cP ∧ l.length ≤ 30) := by
  unfold spec_l6Parts.f impl_parts.f
  have bad1 : Ev (fun k => spec_l6Parts.j0 k s ([] : List S95) true) (([] : List S95), false) := by
    refine Ev.step ?_
    simp only [spec_l6Parts.j0]
    exact Ev.pos trivial Ev.pure
  have bad2 : Ev (fun k => impl_parts.j0 k s true) (([] : List S62), false) := by
    refine Ev.step ?_
    simp only [impl_parts.j0]
    exact Ev.pos trivial Ev.pure
  by_cases c1 : (s.size : Int) < 1
  · exact ⟨[], false, [], Ev.cons rfl (Ev.pos c1 bad1), Ev.pos c1 bad2, by simp⟩
  by_cases c2 : (s.size : Int) > 30
  · exact ⟨[], false, [], Ev.cons rfl (Ev.neg c1 (Ev.pos c2 bad1)), Ev.neg c1 (Ev.pos c2 bad2), by simp⟩
  by_cases c3 : isD (bt s 0) = true
  · obtain ⟨l, b, l', h1, h2, h3⟩ := parts_same s (by omega) s.size 0 (by omega) (by omega) [] (by simp)
    refine ⟨l, b, l', Ev.cons rfl (Ev.neg c1 (Ev.neg c2 (Ev.pos (by omega) (Ev.cons (sD _) ?_)))), Ev.neg c1 (Ev.neg c2 (Ev.pos (by omega) (Ev.cons (iD _) ?_))), fun h => ⟨(h3 h).1, by have := (h3 h).2; omega⟩⟩
    · rw [c3]
      refine Ev.step ?_
      simp only [spec_l6Parts.j0]
      exact Ev.neg (by simp) h1
    · rw [c3]
      refine Ev.step ?_
      simp only [impl_parts.j0]
      exact Ev.neg (by simp) h2
  · have c3' : isD (bt s 0) = false := by simpa using c3
    refine ⟨[], false, [], Ev.cons rfl (Ev.neg c1 (Ev.neg c2 (Ev.pos (by omega) (Ev.cons (sD _) ?_)))), Ev.neg c1 (Ev.neg c2 (Ev.pos (by omega) (Ev.cons (iD _) ?_))), by simp⟩
    · rw [c3']; exact bad1
    · rw [c3']; exact bad2

theorem cmp_less : ∀ (a b : List UInt8), Lib.compareBytes a b = if Op.bytesLess a b = true then -1 else if Op.bytesLess b a = true then 1 else 0
  | [], [] => by simp [Lib.compareBytes, Op.bytesLess]
  | [], _ :: _ => by simp [Lib.compareBytes, Op.bytesLess]
  | _ :: _, [] => by simp [Lib.compareBytes, Op.bytesLess]
  | a :: x, b :: y => by
    have ih := cmp_less x y
    unfold Lib.compareBytes
    rw [ih, show Op.bytesLess (a :: x) (b :: y) = (decide (a < b) || (a == b && Op.bytesLess x y)) from rfl, show Op.bytesLess (b :: y) (a :: x) = (decide (b < a) || (b == a && Op.bytesLess y x)) from rfl]
    by_cases h1 : a < b
    · simp [h1]
    · by_cases h2 : b < a
      · have h3 : (a == b) = false := by
          rw [beq_eq_false_iff_ne]
          rintro rfl
          exact h1 h2
        have h4 : (b == a) = true → False := by
          intro e
          have := eq_of_beq e
          subst this
          exact h1 h2
        simp [h1, h2, h3]
      · have e : a = b := by
          have e1 : ¬ a.toNat < b.toNat := h1
          have e2 : ¬ b.toNat < a.toNat := h2
          exact UInt8.toNat.inj (by omega)
        subst e
        simp [h1]
/-- The rank of a part's kind. -/
def rk (l : List S95) (i : Nat) : Int := if h : i < l.length then (if (l[i]).f0.toList = ([] : List UInt8) then 2 else 0) else 1
theorem rd95 (l : List S95) (i : Nat) (h : i < l.length) : rd_T95 l (i : Int) = l[i] := by unfold rd_T95; simp [List.getD_eq_getElem?_getD, List.getElem?_eq_getElem h]
theorem rd62 (l : List S95) (i : Nat) (h : i < l.length) : rd_T62 (l.map cP) (i : Int) = cP (l[i]) := by unfold rd_T62; simp [List.getD_eq_getElem?_getD, List.getElem?_eq_getElem h]
theorem srank (l : List S95) (i : Nat) : spec_l6Rank.f l (i : Int) = some (rk l i) := by
  unfold spec_l6Rank.f rk
  by_cases h : i < l.length
  · rw [if_neg (by omega), if_pos (by omega), if_pos (by omega), rd95 l i h, dif_pos h]
    by_cases h2 : (l[i]).f0.toList = ([] : List UInt8)
    · rw [if_pos h2, if_pos h2]
    · rw [if_neg h2, if_neg h2]
  · rw [if_pos (by omega), dif_neg h]
theorem irank (l : List S95) (i : Nat) : impl_rank.f (l.map cP) (i : Int) = some (rk l i) := by
  unfold impl_rank.f rk
  rw [List.length_map]
  by_cases h : i < l.length
  · rw [if_neg (by omega), if_pos (by omega), if_pos (by omega), rd62 l i h, dif_pos h]
    show (if (l[i]).f0.toList = ([] : List UInt8) then some (2 : Int) else some 0) = _
    by_cases h2 : (l[i]).f0.toList = ([] : List UInt8)
    · rw [if_pos h2, if_pos h2]
    · rw [if_neg h2, if_neg h2]
  · rw [if_pos (by omega), dif_neg h]
theorem rk_cases (l : List S95) (i : Nat) : (rk l i = 1 ∧ l.length ≤ i) ∨ (rk l i = 0 ∧ i < l.length) ∨ (rk l i = 2 ∧ i < l.length) := by
  unfold rk
  by_cases h : i < l.length
  · rw [dif_pos h]
    by_cases h2 : (l[i]).f0.toList = ([] : List UInt8)
    · rw [if_pos h2]; exact Or.inr (Or.inr ⟨rfl, h⟩)
    · rw [if_neg h2]; exact Or.inr (Or.inl ⟨rfl, h⟩)
  · rw [dif_neg h]; exact Or.inl ⟨rfl, by omega⟩
/-- The end of a round in the program. -/
theorem j6_ev (x y : List S62) (i : Nat) (hi : i < 1000) (c r : Int) (h : (c < 0 ∧ r = -1) ∨ (c > 0 ∧ r = 1) ∨ (c = 0 ∧ Ev (fun k => impl_CompareVersions.l0 k x y ((i + 1 : Nat) : Int)) r)) : Ev (fun k => impl_CompareVersions.j6 k x y (i : Int) c) r := by
  refine Ev.step ?_
  simp only [impl_CompareVersions.j6, upN i (by omega)]
  rcases h with ⟨h, rfl⟩ | ⟨h, rfl⟩ | ⟨h, h2⟩
  · exact Ev.pos h Ev.pure
  · exact Ev.neg (by omega) (Ev.pos h Ev.pure)
  · exact Ev.neg (by omega) (Ev.neg (by omega) h2)
theorem compare_ev (a b : List S95) (ha : a.length ≤ 30) (hb : b.length ≤ 30) : ∃ r : Int, Ev (fun k => spec_l6Compare.l0 k a b 0) r ∧ Ev (fun k => impl_CompareVersions.l0 k (a.map cP) (b.map cP) 0) r := by
  refine downTo 31 (fun i => ∃ r : Int, Ev (fun k => spec_l6Compare.l0 k a b (i : Int)) r ∧ Ev (fun k => impl_CompareVersions.l0 k (a.map cP) (b.map cP) (i : Int)) r) ?_ ?_ 0 (by omega)
  · refine ⟨0, Ev.step ?_, Ev.step ?_⟩
    · simp only [spec_l6Compare.l0]
      refine Ev.neg (by omega) ?_
      rw [decide_eq_false (by omega)]
      refine Ev.step ?_
      simp only [spec_l6Compare.j1]
      exact Ev.neg (by simp) Ev.pure
    · simp only [impl_CompareVersions.l0, List.length_map]
      refine Ev.neg (by omega) ?_
      rw [decide_eq_false (by omega)]
      refine Ev.step ?_
      simp only [impl_CompareVersions.j2]
      exact Ev.neg (by simp) Ev.pure
  · intro i hi ⟨r, h1, h2⟩
    by_cases hin : i < a.length ∨ i < b.length
    · -- the round
      have round : ∃ r : Int, Ev (fun k => spec_l6Compare.j1 k a b (i : Int) true) r ∧ Ev (fun k => impl_CompareVersions.j2 k (a.map cP) (b.map cP) (i : Int) true) r := by
        have sj : ∀ (p q : Int) (t : Bool) (r' : Int), spec_l6Rank.f a (i : Int) = some p → spec_l6Rank.f b (i : Int) = some q → True → True := fun _ _ _ _ _ _ _ => trivial
        rcases rk_cases a i with ⟨p, pa⟩ | ⟨p, pa⟩ | ⟨p, pa⟩ <;> rcases rk_cases b i with ⟨q, qa⟩ | ⟨q, qa⟩ | ⟨q, qa⟩
        · omega
        · -- a ends, b has a word: a is newer
          refine ⟨1, Ev.step ?_, Ev.step ?_⟩
          · simp only [spec_l6Compare.j1]
            refine Ev.pos trivial (Ev.cons (srank a i) (Ev.cons (srank b i) ?_))
            rw [p, q]
            refine Ev.neg (by omega) (Ev.neg (by omega) (Ev.neg (by omega) (Ev.step ?_)))
            simp only [spec_l6Compare.j2]
            exact Ev.neg (by simp) (Ev.pos (by omega) Ev.pure)
          · simp only [impl_CompareVersions.j2]
            refine Ev.pos trivial (Ev.cons (irank a i) (Ev.cons (irank b i) ?_))
            rw [p, q, show wrap64 (1 - 0) = 1 by unfold wrap64; omega]
            refine Ev.neg (by omega) (Ev.step ?_)
            simp only [impl_CompareVersions.j3]
            refine Ev.neg (by simp) (Ev.step ?_)
            simp only [impl_CompareVersions.j4]
            refine Ev.neg (by omega) (Ev.step ?_)
            simp only [impl_CompareVersions.j5]
            exact Ev.neg (by simp) (j6_ev _ _ i (by omega) 1 1 (Or.inr (Or.inl ⟨by omega, rfl⟩)))
        · refine ⟨-1, Ev.step ?_, Ev.step ?_⟩
          · simp only [spec_l6Compare.j1]
            refine Ev.pos trivial (Ev.cons (srank a i) (Ev.cons (srank b i) ?_))
            rw [p, q]
            refine Ev.pos (by omega) (Ev.step ?_)
            simp only [spec_l6Compare.j2]
            exact Ev.pos trivial Ev.pure
          · simp only [impl_CompareVersions.j2]
            refine Ev.pos trivial (Ev.cons (irank a i) (Ev.cons (irank b i) ?_))
            rw [p, q, show wrap64 (1 - 2) = -1 by unfold wrap64; omega]
            refine Ev.neg (by omega) (Ev.step ?_)
            simp only [impl_CompareVersions.j3]
            refine Ev.neg (by simp) (Ev.step ?_)
            simp only [impl_CompareVersions.j4]
            refine Ev.neg (by omega) (Ev.step ?_)
            simp only [impl_CompareVersions.j5]
            exact Ev.neg (by simp) (j6_ev _ _ i (by omega) (-1) (-1) (Or.inl ⟨by omega, rfl⟩))
        · refine ⟨-1, Ev.step ?_, Ev.step ?_⟩
          · simp only [spec_l6Compare.j1]
            refine Ev.pos trivial (Ev.cons (srank a i) (Ev.cons (srank b i) ?_))
            rw [p, q]
            refine Ev.pos (by omega) (Ev.step ?_)
            simp only [spec_l6Compare.j2]
            exact Ev.pos trivial Ev.pure
          · simp only [impl_CompareVersions.j2]
            refine Ev.pos trivial (Ev.cons (irank a i) (Ev.cons (irank b i) ?_))
            rw [p, q, show wrap64 (0 - 1) = -1 by unfold wrap64; omega]
            refine Ev.neg (by omega) (Ev.step ?_)
            simp only [impl_CompareVersions.j3]
            refine Ev.neg (by simp) (Ev.step ?_)
            simp only [impl_CompareVersions.j4]
            refine Ev.neg (by omega) (Ev.step ?_)
            simp only [impl_CompareVersions.j5]
            exact Ev.neg (by simp) (j6_ev _ _ i (by omega) (-1) (-1) (Or.inl ⟨by omega, rfl⟩))
        · -- two words
          have cl := cmp_less (a[i]).f0.toList (b[i]).f0.toList
          have im : ∀ c r', Lib.compareBytes (a[i]).f0.toList (b[i]).f0.toList = c → ((c < 0 ∧ r' = -1) ∨ (c > 0 ∧ r' = 1) ∨ (c = 0 ∧ Ev (fun k => impl_CompareVersions.l0 k (a.map cP) (b.map cP) ((i + 1 : Nat) : Int)) r')) → Ev (fun k => impl_CompareVersions.j2 k (a.map cP) (b.map cP) (i : Int) true) r' := by
            intro c r' hc h
            refine Ev.step ?_
            simp only [impl_CompareVersions.j2]
            refine Ev.pos trivial (Ev.cons (irank a i) (Ev.cons (irank b i) ?_))
            rw [p, q, show wrap64 (0 - 0) = 0 by unfold wrap64; omega]
            refine Ev.pos rfl (Ev.step ?_)
            have hcp : strings_Compare.f (cP (a[i])).f1 (cP (b[i])).f1 = some c := by
              unfold strings_Compare.f
              show some (Lib.compareBytes (a[i]).f0.data.toList (b[i]).f0.data.toList) = _
              rw [← Lib.toList_data, ← Lib.toList_data, hc]
            simp only [impl_CompareVersions.j3, rd62 a i pa, rd62 b i qa, List.length_map]
            refine Ev.pos (by decide) (Ev.pos (by omega) (Ev.pos (by omega) (Ev.pos (by omega) (Ev.cons hcp (Ev.step ?_)))))
            simp only [impl_CompareVersions.j4]
            by_cases c0 : c = 0
            · refine Ev.pos c0 (Ev.step ?_)
              simp only [impl_CompareVersions.j5]
              exact Ev.neg (by simp) (j6_ev _ _ i (by omega) c r' h)
            · refine Ev.neg c0 (Ev.step ?_)
              simp only [impl_CompareVersions.j5]
              exact Ev.neg (by simp) (j6_ev _ _ i (by omega) c r' h)
          have sp : ∀ (t : Bool) r', Op.bytesLess (a[i]).f0.toList (b[i]).f0.toList = t → Ev (fun k => spec_l6Compare.j2 k a b (i : Int) 0 0 t) r' → Ev (fun k => spec_l6Compare.j1 k a b (i : Int) true) r' := by
            intro t r' ht h
            refine Ev.step ?_
            simp only [spec_l6Compare.j1, rd95 a i pa, rd95 b i qa]
            refine Ev.pos trivial (Ev.cons (srank a i) (Ev.cons (srank b i) ?_))
            rw [p, q, ht]
            cases t
            · exact Ev.neg (by omega) (Ev.pos rfl (Ev.pos rfl (Ev.pos (by omega) (Ev.pos (by omega) (Ev.pos (by omega) (Ev.neg (by simp) (Ev.neg (by omega) h)))))))
            · exact Ev.neg (by omega) (Ev.pos rfl (Ev.pos rfl (Ev.pos (by omega) (Ev.pos (by omega) (Ev.pos (by omega) (Ev.pos rfl h))))))
          cases hl : Op.bytesLess (a[i]).f0.toList (b[i]).f0.toList
          · rw [hl] at cl
            cases hg : Op.bytesLess (b[i]).f0.toList (a[i]).f0.toList
            · rw [hg] at cl
              refine ⟨r, sp false r hl (Ev.step ?_), im 0 r (by simpa using cl) (Or.inr (Or.inr ⟨rfl, h2⟩))⟩
              simp only [spec_l6Compare.j2, rd95 a i pa, rd95 b i qa, hg, upN i (by omega)]
              exact Ev.neg (by simp) (Ev.neg (by omega) (Ev.pos trivial (Ev.pos (by omega) (Ev.pos (by omega) (Ev.pos (by omega) (Ev.neg (by simp) (Ev.neg (by omega) h1)))))))
            · rw [hg] at cl
              refine ⟨1, sp false 1 hl (Ev.step ?_), im 1 1 (by simpa using cl) (Or.inr (Or.inl ⟨by omega, rfl⟩))⟩
              simp only [spec_l6Compare.j2, rd95 a i pa, rd95 b i qa, hg]
              exact Ev.neg (by simp) (Ev.neg (by omega) (Ev.pos trivial (Ev.pos (by omega) (Ev.pos (by omega) (Ev.pos (by omega) (Ev.pos trivial Ev.pure))))))
          · rw [hl] at cl
            refine ⟨-1, sp true (-1) hl (Ev.step ?_), im (-1) (-1) (by simpa using cl) (Or.inl ⟨by omega, rfl⟩)⟩
            simp only [spec_l6Compare.j2]
            exact Ev.pos trivial Ev.pure
        · refine ⟨-1, Ev.step ?_, Ev.step ?_⟩
          · simp only [spec_l6Compare.j1]
            refine Ev.pos trivial (Ev.cons (srank a i) (Ev.cons (srank b i) ?_))
            rw [p, q]
            refine Ev.pos (by omega) (Ev.step ?_)
            simp only [spec_l6Compare.j2]
            exact Ev.pos trivial Ev.pure
          · simp only [impl_CompareVersions.j2]
            refine Ev.pos trivial (Ev.cons (irank a i) (Ev.cons (irank b i) ?_))
            rw [p, q, show wrap64 (0 - 2) = -2 by unfold wrap64; omega]
            refine Ev.neg (by omega) (Ev.step ?_)
            simp only [impl_CompareVersions.j3]
            refine Ev.neg (by simp) (Ev.step ?_)
            simp only [impl_CompareVersions.j4]
            refine Ev.neg (by omega) (Ev.step ?_)
            simp only [impl_CompareVersions.j5]
            exact Ev.neg (by simp) (j6_ev _ _ i (by omega) (-2) (-1) (Or.inl ⟨by omega, rfl⟩))
        · refine ⟨1, Ev.step ?_, Ev.step ?_⟩
          · simp only [spec_l6Compare.j1]
            refine Ev.pos trivial (Ev.cons (srank a i) (Ev.cons (srank b i) ?_))
            rw [p, q]
            refine Ev.neg (by omega) (Ev.neg (by omega) (Ev.pos rfl (Ev.neg (by omega) (Ev.step ?_))))
            simp only [spec_l6Compare.j2]
            exact Ev.neg (by simp) (Ev.pos (by omega) Ev.pure)
          · simp only [impl_CompareVersions.j2]
            refine Ev.pos trivial (Ev.cons (irank a i) (Ev.cons (irank b i) ?_))
            rw [p, q, show wrap64 (2 - 1) = 1 by unfold wrap64; omega]
            refine Ev.neg (by omega) (Ev.step ?_)
            simp only [impl_CompareVersions.j3]
            refine Ev.neg (by simp) (Ev.step ?_)
            simp only [impl_CompareVersions.j4]
            refine Ev.neg (by omega) (Ev.step ?_)
            simp only [impl_CompareVersions.j5]
            exact Ev.neg (by simp) (j6_ev _ _ i (by omega) 1 1 (Or.inr (Or.inl ⟨by omega, rfl⟩)))
        · refine ⟨1, Ev.step ?_, Ev.step ?_⟩
          · simp only [spec_l6Compare.j1]
            refine Ev.pos trivial (Ev.cons (srank a i) (Ev.cons (srank b i) ?_))
            rw [p, q]
            refine Ev.neg (by omega) (Ev.neg (by omega) (Ev.pos rfl (Ev.neg (by omega) (Ev.step ?_))))
            simp only [spec_l6Compare.j2]
            exact Ev.neg (by simp) (Ev.pos (by omega) Ev.pure)
          · simp only [impl_CompareVersions.j2]
            refine Ev.pos trivial (Ev.cons (irank a i) (Ev.cons (irank b i) ?_))
            rw [p, q, show wrap64 (2 - 0) = 2 by unfold wrap64; omega]
            refine Ev.neg (by omega) (Ev.step ?_)
            simp only [impl_CompareVersions.j3]
            refine Ev.neg (by simp) (Ev.step ?_)
            simp only [impl_CompareVersions.j4]
            refine Ev.neg (by omega) (Ev.step ?_)
            simp only [impl_CompareVersions.j5]
            exact Ev.neg (by simp) (j6_ev _ _ i (by omega) 2 1 (Or.inr (Or.inl ⟨by omega, rfl⟩)))
        · -- two numbers
          have im : ∀ c r', (if (a[i]).f1 < (b[i]).f1 then -1 else if (a[i]).f1 > (b[i]).f1 then 1 else 0) = c → ((c < 0 ∧ r' = -1) ∨ (c > 0 ∧ r' = 1) ∨ (c = 0 ∧ Ev (fun k => impl_CompareVersions.l0 k (a.map cP) (b.map cP) ((i + 1 : Nat) : Int)) r')) → Ev (fun k => impl_CompareVersions.j2 k (a.map cP) (b.map cP) (i : Int) true) r' := by
            intro c r' hc h
            refine Ev.step ?_
            simp only [impl_CompareVersions.j2]
            refine Ev.pos trivial (Ev.cons (irank a i) (Ev.cons (irank b i) ?_))
            rw [p, q, show wrap64 (2 - 2) = 0 by unfold wrap64; omega]
            refine Ev.pos rfl (Ev.step ?_)
            simp only [impl_CompareVersions.j3]
            refine Ev.neg (by decide) (Ev.step ?_)
            simp only [impl_CompareVersions.j4]
            refine Ev.pos trivial (Ev.step ?_)
            have ea : (cP (a[i])).f0 = (a[i]).f1 := rfl
            have eb : (cP (b[i])).f0 = (b[i]).f1 := rfl
            simp only [impl_CompareVersions.j5, rd62 a i pa, rd62 b i qa, List.length_map, ea, eb]
            refine Ev.pos (by decide) (Ev.pos (by omega) (Ev.pos (by omega) (Ev.pos (by omega) ?_)))
            by_cases g1 : (a[i]).f1 < (b[i]).f1
            · rw [if_pos g1] at hc
              subst hc
              exact Ev.pos g1 (j6_ev _ _ i (by omega) _ r' h)
            · rw [if_neg g1] at hc
              by_cases g2 : (a[i]).f1 > (b[i]).f1
              · rw [if_pos g2] at hc
                subst hc
                exact Ev.neg g1 (Ev.pos g2 (j6_ev _ _ i (by omega) _ r' h))
              · rw [if_neg g2] at hc
                subst hc
                exact Ev.neg g1 (Ev.neg g2 (j6_ev _ _ i (by omega) _ r' h))
          have sp : ∀ (t : Bool) r', decide ((a[i]).f1 < (b[i]).f1) = t → Ev (fun k => spec_l6Compare.j2 k a b (i : Int) 2 2 t) r' → Ev (fun k => spec_l6Compare.j1 k a b (i : Int) true) r' := by
            intro t r' ht h
            refine Ev.step ?_
            simp only [spec_l6Compare.j1, rd95 a i pa, rd95 b i qa]
            refine Ev.pos trivial (Ev.cons (srank a i) (Ev.cons (srank b i) ?_))
            rw [p, q, ht]
            exact Ev.neg (by omega) (Ev.neg (by omega) (Ev.pos rfl (Ev.pos rfl (Ev.pos (by omega) (Ev.pos (by omega) (Ev.pos (by omega) h))))))
          by_cases g1 : (a[i]).f1 < (b[i]).f1
          · refine ⟨-1, sp true (-1) (decide_eq_true g1) (Ev.step ?_), im (-1) (-1) (by rw [if_pos g1]) (Or.inl ⟨by omega, rfl⟩)⟩
            simp only [spec_l6Compare.j2]
            exact Ev.pos trivial Ev.pure
          · by_cases g2 : (a[i]).f1 > (b[i]).f1
            · refine ⟨1, sp false 1 (decide_eq_false g1) (Ev.step ?_), im 1 1 (by rw [if_neg g1, if_pos g2]) (Or.inr (Or.inl ⟨by omega, rfl⟩))⟩
              simp only [spec_l6Compare.j2, rd95 a i pa, rd95 b i qa]
              exact Ev.neg (by simp) (Ev.neg (by omega) (Ev.neg (by omega) (Ev.pos trivial (Ev.pos (by omega) (Ev.pos (by omega) (Ev.pos (by omega) (Ev.pos g2 Ev.pure)))))))
            · refine ⟨r, sp false r (decide_eq_false g1) (Ev.step ?_), im 0 r (by rw [if_neg g1, if_neg g2]) (Or.inr (Or.inr ⟨rfl, h2⟩))⟩
              simp only [spec_l6Compare.j2, rd95 a i pa, rd95 b i qa, upN i (by omega)]
              exact Ev.neg (by simp) (Ev.neg (by omega) (Ev.neg (by omega) (Ev.pos trivial (Ev.pos (by omega) (Ev.pos (by omega) (Ev.pos (by omega) (Ev.neg g2 h1)))))))
      obtain ⟨r', g1, g2⟩ := round
      refine ⟨r', Ev.step ?_, Ev.step ?_⟩
      · simp only [spec_l6Compare.l0]
        by_cases c : i < a.length
        · exact Ev.pos (by omega) g1
        · refine Ev.neg (by omega) ?_
          rw [decide_eq_true (by omega)]
          exact g1
      · simp only [impl_CompareVersions.l0, List.length_map]
        by_cases c : i < a.length
        · exact Ev.pos (by omega) g2
        · refine Ev.neg (by omega) ?_
          rw [decide_eq_true (by omega)]
          exact g2
    · refine ⟨0, Ev.step ?_, Ev.step ?_⟩
      · simp only [spec_l6Compare.l0]
        refine Ev.neg (by omega) ?_
        rw [decide_eq_false (by omega)]
        refine Ev.step ?_
        simp only [spec_l6Compare.j1]
        exact Ev.neg (by simp) Ev.pure
      · simp only [impl_CompareVersions.l0, List.length_map]
        refine Ev.neg (by omega) ?_
        rw [decide_eq_false (by omega)]
        refine Ev.step ?_
        simp only [impl_CompareVersions.j2]
        exact Ev.neg (by simp) Ev.pure
theorem FnExactCompareVersions : laws_FnExactCompareVersions.Pure := by
  intro s t hs ht
  refine Ev.at ?_
  unfold laws_FnExactCompareVersions.f
  by_cases c1 : (s.size : Int) > 1048576
  · exact Ev.pos c1 Ev.pure
  by_cases c2 : (t.size : Int) > 1048576
  · exact Ev.neg c1 (Ev.pos c2 Ev.pure)
  obtain ⟨l, b, l', h1, h2, h3⟩ := Parts_ev s
  obtain ⟨m, c, m', g1, g2, g3⟩ := Parts_ev t
  have main : ∃ r : Int, Ev (fun k => spec_CompareVersions.f k s t) r ∧ Ev (fun k => impl_CompareVersions.f k s t) r := by
    unfold spec_CompareVersions.f impl_CompareVersions.f
    have bad : ∀ x y, Ev (fun k => impl_CompareVersions.j0 k x y true) 2 := by
      intro x y
      refine Ev.step ?_
      simp only [impl_CompareVersions.j0]
      exact Ev.pos trivial Ev.pure
    cases b
    · exact ⟨2, Ev.bind h1 (Ev.bind g1 (Ev.neg (by simp) Ev.pure)), Ev.bind h2 (Ev.bind g2 (Ev.neg (by simp) (bad _ _)))⟩
    · cases c
      · exact ⟨2, Ev.bind h1 (Ev.bind g1 (Ev.pos rfl (Ev.neg (by simp) Ev.pure))), Ev.bind h2 (Ev.bind g2 (Ev.pos rfl (bad _ _)))⟩
      · obtain ⟨e1, z1⟩ := h3 rfl
        obtain ⟨e2, z2⟩ := g3 rfl
        obtain ⟨r, q1, q2⟩ := compare_ev l m z1 z2
        refine ⟨r, Ev.bind h1 (Ev.bind g1 (Ev.pos rfl (Ev.pos rfl (Ev.bind (a := r) ?_ Ev.pure)))), Ev.bind h2 (Ev.bind g2 (Ev.pos rfl (Ev.step ?_)))⟩
        · unfold spec_l6Compare.f
          exact q1
        · simp only [impl_CompareVersions.j0]
          refine Ev.neg (by simp) ?_
          rw [e1, e2]
          exact q2
  obtain ⟨r, q1, q2⟩ := main
  exact Ev.neg c1 (Ev.neg c2 (Ev.bind q1 (Ev.bind q2 (Ev.pos rfl Ev.pure))))

end Go.Proofs.YtklinldidfdnjaaDoor.Pure
