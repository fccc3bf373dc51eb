/- The pure statement of FnExactSaved: the same steps are made, and the same bytes of them. -/
import Derived.Test.YtkijlpiiiejjkaaPFnExactSavedx0
import Derived.Test.YtkijlpiiiejjkaaPFnExactSavedx1
import Derived.Test.YtkijlpiiiejjkaaPFnExactSavedx2
import Derived.Test.YtkijlpiiiejjkaaPFnExactSavedx3
import Derived.Test.YtkijlpiiiejjkaaPFnExactSavedx4
import Derived.Test.YtkijlpiiiejjkaaPFnExactSavedx5
import Derived.Test.YtkijlpiiiejjkaaPFnExactSavedx6
import Derived.Test.YtkijlpiiiejjkaaPFnExactSavedx7
import Derived.Laws.BitsLemmas
import Derived.Laws.Bits64b
import Derived.Lib.Bytealg
namespace Go.Proofs.Ytkijlpiiiejjkaa.Pure
open Go.RowKit Go.Proofs.YtkijlpiiiejjkaaW.PrintWords Go.Proofs.YtkijlpiiiejjkaaW.PrintLast Go.Proofs.YtkijlpiiiejjkaaW.PrintMore Go.Proofs.Ytkijlpiiiejjkaa.PFnExactSaved

theorem u64w (n : Int) (h0 : 0 ≤ n) (h1 : n < 18446744073709551616) : IntKind.u64.wrap n = n := by
  simp [IntKind.wrap, IntKind.signed, IntKind.bits]; omega
theorem i64w (n : Int) (h0 : -9223372036854775808 ≤ n) (h1 : n < 9223372036854775808) : IntKind.i64.wrap n = n := by
  rw [IntKind.wrap_i64]; omega
theorem w64 (n : Int) (h0 : -9223372036854775808 ≤ n) (h1 : n < 9223372036854775808) : wrap64 n = n := by unfold wrap64; omega
theorem up1 (i : Int) (h0 : 0 ≤ i) (h : i < 9223372036854775807) : wrap64 (i + 1) = i + 1 := by unfold wrap64; omega
theorem u64_lo (n : Int) : 0 ≤ IntKind.u64.wrap n := by simp [IntKind.wrap, IntKind.signed, IntKind.bits]; omega
theorem u64_hi (n : Int) : IntKind.u64.wrap n < 18446744073709551616 := by simp [IntKind.wrap, IntKind.signed, IntKind.bits]; omega
theorem u64_wf (x : Int) (h : (Lit.int .u64 x).wf = true) : 0 ≤ x ∧ x < 18446744073709551616 := by
  simp [Lit.wf, IntKind.min, IntKind.max, IntKind.signed, IntKind.bits] at h; omega
theorem and31 (x : Int) (h0 : 0 ≤ x) (h1 : x < 18446744073709551616) : Go.bits .and .u64 x 31 = x % 32 := by
  have := bits_mask .u64 64 (by decide) (fun n a b => u64w n a (by simpa using b)) 5 (by decide) x h0 (by simpa using h1)
  simpa using this
theorem or5 (a c : Int) (h0 : 0 ≤ a) (h1 : a * 32 < 18446744073709551616) (hc0 : 0 ≤ c) (hc : c < 32) : Go.bits .or .u64 (a * 32) c = a * 32 + c := by
  have := bits_join .u64 64 (by decide) (fun n x y => u64w n x (by simpa using y)) 5 (a * 32) c (by omega) (by omega) (by simpa using h1) hc0 (by simpa using hc) (by simp; omega)
  exact this
theorem bt_list (l : List UInt8) (i : Int) : bt ⟨l.toArray⟩ i = ((l.getD i.toNat 0).toNat : Int) := by
  unfold bt
  split
  · rename_i h
    have h' : i.toNat < l.length := by simpa [ByteArray.size] using h
    rw [List.getD_eq_getElem?_getD, List.getElem?_eq_getElem h']
    rfl
  · rename_i h
    have h' : l.length ≤ i.toNat := by simpa [ByteArray.size] using h
    rw [List.getD_eq_getElem?_getD, List.getElem?_eq_none h']; rfl
/-- The alphabet of chapter 1. -/
def alpha : ByteArray := ⟨#[48, 49, 50, 51, 52, 53, 54, 55, 56, 57, 97, 98, 99, 100, 102, 103, 104, 105, 106, 107, 108, 109, 110, 112, 113, 114, 115, 118, 119, 120, 121, 122]⟩
/-- The n-th digit from the right, as its byte. -/
def dg (x : Int) (n : Nat) : Int := bt alpha (x / 2 ^ (5 * n) % 32)
/-- The last n digits. -/
def ds (x : Int) : Nat → List Int
  | 0 => []
  | n + 1 => dg x n :: ds x n
theorem ds_length (x : Int) : ∀ n, (ds x n).length = n
  | 0 => rfl
  | n + 1 => by simp [ds, ds_length x n]
/-- The thirteen bytes. -/
def word (x : Int) : ByteArray := strOfNums (ds x 13)
theorem div_lo (x : Int) (h0 : 0 ≤ x) (n : Nat) : 0 ≤ x / 2 ^ n := Int.ediv_nonneg h0 (by have := Nat.two_pow_pos n; exact_mod_cast Nat.zero_le _)
theorem div_hi (x : Int) (h0 : 0 ≤ x) (n : Nat) : x / 2 ^ n ≤ x := Int.ediv_le_self _ h0
theorem shr5 (x : Int) (n : Nat) (hn : n ≤ 12) : shr .u64 x (5 * n) = x / 2 ^ (5 * n) := by
  unfold shr
  have e : (5 * (n : Int)).toNat = 5 * n := by omega
  rw [e, Nat.min_eq_left (by simp [IntKind.bits]; omega)]
/-- What a byte is worth as a digit; -1: it is none. -/
def dv (c : Int) : Int := Lib.indexByte alpha.data.toList c.toNat.toUInt8
theorem dv_all : ∀ c : Fin 256, -1 ≤ dv (c.val : Int) ∧ dv (c.val : Int) < 32 := by decide +kernel
theorem dv_bounds (c : Int) (h0 : 0 ≤ c) (h1 : c ≤ 255) : -1 ≤ dv c ∧ dv c < 32 := by
  have := dv_all ⟨c.toNat, by omega⟩
  simpa [Int.toNat_of_nonneg h0] using this
/-- The number that thirteen digits tell, from the i-th on. -/
def rwGo (s : ByteArray) : Nat → Int → Nat → Int × Bool
  | 0, x, _ => (x, true)
  | d + 1, x, i => if dv (bt s i) < 0 then (0, false) else if i = 0 ∧ dv (bt s i) > 15 then (0, false) else rwGo s d (x * 32 + dv (bt s i)) (i + 1)
def rw32 (s : ByteArray) : Int × Bool := if s.size = 13 then rwGo s 13 0 0 else (0, false)
/-- The bound that the digits so far keep. -/
def lim (d : Nat) : Int := if d = 13 then 1 else 2 ^ (64 - 5 * d)
theorem lim_all : ∀ d : Fin 13, lim d.val ≤ 18446744073709551616 ∧ 0 < lim d.val ∧ (d.val < 12 → lim (d.val + 1) * 32 = lim d.val) ∧ (d.val = 12 → lim d.val = 16) ∧ lim (d.val + 1) * 32 ≤ 18446744073709551616 := by decide +kernel
theorem word_size (x : Int) : (word x).size = 13 := by unfold word; rw [strOfNums_size, ds_length]

-- Ev
/-- With fuel enough the run answers r. -/
def Ev {α : Type} (f : Nat → Option α) (r : α) : Prop := ∃ K, ∀ k, K ≤ k → f k = some r
theorem Ev.pure {α : Type} {r : α} : Ev (fun _ => some r) r := ⟨0, fun _ _ => rfl⟩
theorem Ev.of {α : Type} {f : Nat → Option α} {r : α} (N : Nat) (h : ∀ k, N ≤ k → f k = some r) : Ev f r := ⟨N, h⟩
theorem Ev.step {α : Type} {f : Nat → Option α} {r : α} (h : Ev (fun k => f (k + 1)) r) : Ev f r := by
  obtain ⟨K, h⟩ := h
  refine ⟨K + 1, fun k hk => ?_⟩
  obtain ⟨m, rfl⟩ : ∃ m, k = m + 1 := ⟨k - 1, by omega⟩
  exact h m (by omega)
theorem Ev.bind {α β : Type} {f : Nat → Option α} {g : Nat → α → Option β} {a : α} {r : β} (h : Ev f a) (h2 : Ev (fun k => g k a) r) : Ev (fun k => (f k).bind (g k)) r := by
  obtain ⟨K, h⟩ := h
  obtain ⟨K2, h2⟩ := h2
  refine ⟨K + K2, fun k hk => ?_⟩
  show (f k).bind (g k) = some r
  rw [h k (by omega)]
  exact h2 k (by omega)
theorem Ev.cons {α β : Type} {x : Option α} {g : Nat → α → Option β} {a : α} {r : β} (h : x = some a) (h2 : Ev (fun k => g k a) r) : Ev (fun k => x.bind (g k)) r := by
  subst h
  exact h2
theorem Ev.pos {α : Type} {c : Prop} [Decidable c] {f g : Nat → Option α} {r : α} (hc : c) (h : Ev f r) : Ev (fun k => if c then f k else g k) r := by
  simpa only [if_pos hc] using h
theorem Ev.neg {α : Type} {c : Prop} [Decidable c] {f g : Nat → Option α} {r : α} (hc : ¬ c) (h : Ev g r) : Ev (fun k => if c then f k else g k) r := by
  simpa only [if_neg hc] using h
theorem Ev.at {α : Type} {f : Nat → Option α} {r : α} (h : Ev f r) : ∃ k, f k = some r := by
  obtain ⟨K, h⟩ := h
  exact ⟨K, h K (Nat.le_refl _)⟩
theorem Ev.uniq {α : Type} {f : Nat → Option α} {r s : α} (h : Ev f r) (h2 : Ev f s) : r = s := by
  obtain ⟨K, h⟩ := h
  obtain ⟨K2, h2⟩ := h2
  have a := h (K + K2) (by omega)
  have b := h2 (K + K2) (by omega)
  rw [a] at b
  exact Option.some.inj b
/-- From the end down. -/
theorem downTo (n : Nat) (P : Nat → Prop) (base : P n) (step : ∀ i, i < n → P (i + 1) → P i) : ∀ i, i ≤ n → P i := by
  intro i hi
  obtain ⟨d, rfl⟩ : ∃ d, i = n - d := ⟨n - i, by omega⟩
  clear hi
  induction d with
  | zero => exact base
  | succ d ih =>
    by_cases h : d < n
    · refine step _ (by omega) ?_
      have e : n - (d + 1) + 1 = n - d := by omega
      rw [e]; exact ih
    · have e : n - (d + 1) = n - d := by omega
      rw [e]; exact ih
theorem upN (i : Nat) (h : i < 1000000000000000) : wrap64 ((i : Int) + 1) = ((i + 1 : Nat) : Int) := by unfold wrap64; omega
theorem dnN (i : Nat) (h : i < 1000000000000000) (h0 : 0 < i) : wrap64 ((i : Int) - 1) = ((i - 1 : Nat) : Int) := by unfold wrap64; omega
/-- A loop that sets place by place leaves the row's picture. -/
theorem setLoop {A B : Type} (L : Nat → List B → Int → Option (List B)) (x : List A) (c : A → B)
    (step : ∀ (i : Nat) (y : List B) (r : List B) (h : i < x.length), y.length = x.length → Ev (fun k => L k (y.set i (c x[i])) ((i + 1 : Nat) : Int)) r → Ev (fun k => L k y (i : Int)) r)
    (stop : ∀ y : List B, y.length = x.length → Ev (fun k => L k y ((x.length : Nat) : Int)) y) :
    ∀ y : List B, y.length = x.length → Ev (fun k => L k y 0) (x.map c) := by
  have main := downTo x.length (fun i => ∀ y : List B, y.length = x.length → y.take i = (x.map c).take i → Ev (fun k => L k y (i : Int)) (x.map c)) ?_ ?_
  · intro y hy
    exact main 0 (by omega) y hy (by simp)
  · intro y hy he
    rw [List.take_of_length_le (by omega), List.take_of_length_le (by simp)] at he
    have := stop y hy
    rw [he] at this
    rw [he] at hy
    exact he ▸ stop y (by rw [he]; exact hy)
  · intro i hi ih y hy he
    refine step i y _ hi hy (ih _ (by simp [hy]) ?_)
    rw [List.take_add_one, List.take_add_one, List.take_set_of_le (by omega), he, List.getElem?_set_self (by omega)]
    simp [List.getElem?_eq_getElem hi]
theorem countLoop {α : Type} (L : Nat → Int → Option α) (n : Nat) (r : α) (step : ∀ i : Nat, i < n → Ev (fun k => L k ((i + 1 : Nat) : Int)) r → Ev (fun k => L k (i : Int)) r) (stop : Ev (fun k => L k ((n : Nat) : Int)) r) : Ev (fun k => L k 0) r :=
  downTo n (fun i => Ev (fun k => L k (i : Int)) r) stop (fun i hi h => step i hi h) 0 (by omega)

-- toByteS
theorem toByteS_loop (x : List Int) (hx : x.length ≤ 140737488355328) (d : Nat) : ∀ (k : Nat) (y : List Int) (i : Int), y.length = x.length → 0 ≤ i → i ≤ x.length → (x.length : Int) - i = d → d < k → y.take i.toNat = x.take i.toNat →
    laws_toByteS.l0 k x y i = some x := by
  induction d with
  | zero =>
    intro k y i hy h0 h1 hd hk he
    obtain ⟨k, rfl⟩ : ∃ m, k = m + 1 := ⟨k - 1, by omega⟩
    simp only [laws_toByteS.l0]
    rw [if_neg (by omega)]
    rw [List.take_of_length_le (by omega), List.take_of_length_le (by omega)] at he
    rw [he]
  | succ d ih =>
    intro k y i hy h0 h1 hd hk he
    obtain ⟨k, rfl⟩ : ∃ m, k = m + 1 := ⟨k - 1, by omega⟩
    simp only [laws_toByteS.l0]
    rw [if_pos (by omega), if_pos h0, if_pos (by omega), up1 i h0 (by omega)]
    refine ih k _ _ (by simp [hy]) (by omega) (by omega) (by omega) (by omega) ?_
    have e1 : (i + 1).toNat = i.toNat + 1 := by omega
    rw [e1, List.take_add_one, List.take_add_one, List.take_set_of_le (by omega), he, List.getElem?_set_self (by omega)]
    unfold rd
    rw [List.getElem?_eq_getElem (show i.toNat < x.length by omega)]
    simp [List.getD_eq_getElem?_getD, List.getElem?_eq_getElem (show i.toNat < x.length by omega)]
theorem toByteS_f (x : List Int) (hx : x.length ≤ 140737488355328) (k : Nat) (hk : x.length < k) : laws_toByteS.f k x = some x := by
  unfold laws_toByteS.f
  rw [if_pos (by omega), if_pos (by omega)]
  exact toByteS_loop x hx x.length k _ 0 (by simp) (by omega) (by omega) (by omega) hk (by simp)

-- eqByteS
theorem eqByteS_loop (x : List Int) (hx : x.length ≤ 140737488355328) (d : Nat) : ∀ (k : Nat) (i : Int), 0 ≤ i → i ≤ x.length → (x.length : Int) - i = d → d < k → laws_eqByteS.l0 k x x i = some true := by
  induction d with
  | zero =>
    intro k i h0 h1 hd hk
    obtain ⟨k, rfl⟩ : ∃ m, k = m + 1 := ⟨k - 1, by omega⟩
    simp only [laws_eqByteS.l0]
    rw [if_neg (by omega)]
  | succ d ih =>
    intro k i h0 h1 hd hk
    obtain ⟨k, rfl⟩ : ∃ m, k = m + 1 := ⟨k - 1, by omega⟩
    simp only [laws_eqByteS.l0]
    rw [if_pos (by omega), if_pos h0, if_pos (by omega), up1 i h0 (by omega)]
    simp only [if_true]
    exact ih k _ (by omega) (by omega) (by omega) (by omega)
theorem eqByteS_f (x : List Int) (hx : x.length ≤ 140737488355328) (k : Nat) (hk : x.length < k) : laws_eqByteS.f k x x = some true := by
  unfold laws_eqByteS.f
  rw [if_pos rfl]
  exact eqByteS_loop x hx x.length k 0 (by omega) (by omega) (by omega) hk

-- MakeDelta
theorem rdN (l : List Int) (i : Nat) : rd l (i : Int) = l.getD i 0 := by unfold rd; simp
theorem addN (a b : Nat) (h : a + b < 1000000000000000) : wrap64 ((a : Int) + (b : Int)) = ((a + b : Nat) : Int) := by unfold wrap64; omega
/-- The search of chapter 14, both ways told: the code's continuation goes on with what is found. -/
theorem find_ev (x y : List Int) (hx : x.length ≤ 3000) (hy : y.length ≤ 3000) (at_ : Nat) (hat : at_ ≤ y.length) :
    ∃ fr best : Nat, best ≤ 1000 ∧ at_ + best ≤ y.length ∧ Ev (fun k => spec_l14Find.f k x y (at_ : Int)) ((fr : Int), (best : Int)) ∧
      ∀ out r, Ev (fun k => impl_MakeDelta.l1 k x y out (at_ : Int) (best : Int) (fr : Int) (x.length : Int) (x.length : Int)) r → Ev (fun k => impl_MakeDelta.l1 k x y out (at_ : Int) 0 0 (x.length : Int) 0) r := by
  unfold spec_l14Find.f
  have key := downTo x.length (fun p => ∀ b0 f0 : Nat, b0 ≤ 1000 → at_ + b0 ≤ y.length → ∃ fr best : Nat, best ≤ 1000 ∧ at_ + best ≤ y.length ∧ Ev (fun k => spec_l14Find.l0 k x y (at_ : Int) (b0 : Int) (f0 : Int) (p : Int)) ((fr : Int), (best : Int)) ∧
      ∀ out r, Ev (fun k => impl_MakeDelta.l1 k x y out (at_ : Int) (best : Int) (fr : Int) (x.length : Int) (x.length : Int)) r → Ev (fun k => impl_MakeDelta.l1 k x y out (at_ : Int) (b0 : Int) (f0 : Int) (x.length : Int) (p : Int)) r) ?_ ?_ 0 (by omega)
  · exact key 0 0 (by omega) (by omega)
  · intro b0 f0 h0 h1
    refine ⟨f0, b0, h0, h1, Ev.step ?_, fun out r h => h⟩
    simp only [spec_l14Find.l0]
    exact Ev.neg (by omega) Ev.pure
  · intro p hp ih b0 f0 h0 h1
    have stop : ∀ n : Nat, n ≤ 1000 → at_ + n ≤ y.length → ∃ fr best : Nat, best ≤ 1000 ∧ at_ + best ≤ y.length ∧
        Ev (fun k => if (n : Int) > (b0 : Int) then spec_l14Find.l0 k x y (at_ : Int) (n : Int) (p : Int) (wrap64 ((p : Int) + 1)) else spec_l14Find.l0 k x y (at_ : Int) (b0 : Int) (f0 : Int) (wrap64 ((p : Int) + 1))) ((fr : Int), (best : Int)) ∧
        ∀ out r, Ev (fun k => impl_MakeDelta.l1 k x y out (at_ : Int) (best : Int) (fr : Int) (x.length : Int) (x.length : Int)) r →
          Ev (fun k => if (n : Int) > (b0 : Int) then impl_MakeDelta.l1 k x y out (at_ : Int) (n : Int) (p : Int) (x.length : Int) (wrap64 ((p : Int) + 1)) else impl_MakeDelta.l1 k x y out (at_ : Int) (b0 : Int) (f0 : Int) (x.length : Int) (wrap64 ((p : Int) + 1))) r := by
      intro n hn hn2
      rw [upN p (by omega)]
      by_cases c : (n : Int) > (b0 : Int)
      · obtain ⟨fr, best, g0, g1, g2, g3⟩ := ih n p hn hn2
        exact ⟨fr, best, g0, g1, Ev.pos c g2, fun out r h => Ev.pos c (g3 out r h)⟩
      · obtain ⟨fr, best, g0, g1, g2, g3⟩ := ih b0 f0 h0 h1
        exact ⟨fr, best, g0, g1, Ev.neg c g2, fun out r h => Ev.neg c (g3 out r h)⟩
    have inner := downTo 1000 (fun n => at_ + n ≤ y.length → ∃ fr best : Nat, best ≤ 1000 ∧ at_ + best ≤ y.length ∧ Ev (fun k => spec_l14Find.l1 k x y (at_ : Int) (b0 : Int) (f0 : Int) (p : Int) (n : Int)) ((fr : Int), (best : Int)) ∧
      ∀ out r, Ev (fun k => impl_MakeDelta.l1 k x y out (at_ : Int) (best : Int) (fr : Int) (x.length : Int) (x.length : Int)) r → Ev (fun k => impl_MakeDelta.l2 k x y out (at_ : Int) (b0 : Int) (f0 : Int) (p : Int) (n : Int) (x.length : Int) (p : Int)) r) ?_ ?_ 0 (by omega)
    · obtain ⟨fr, best, g0, g1, g2, g3⟩ := inner (by omega)
      refine ⟨fr, best, g0, g1, Ev.step ?_, fun out r h => Ev.step ?_⟩
      · simp only [spec_l14Find.l0]
        exact Ev.pos (by omega) g2
      · simp only [impl_MakeDelta.l1]
        exact Ev.pos (by omega) (g3 out r h)
    · intro hn
      obtain ⟨fr, best, g0, g1, g2, g3⟩ := stop 1000 (by omega) hn
      refine ⟨fr, best, g0, g1, Ev.step ?_, fun out r h => Ev.step ?_⟩
      · simp only [spec_l14Find.l1]
        exact Ev.neg (by omega) g2
      · simp only [impl_MakeDelta.l2]
        exact Ev.neg (by omega) (g3 out r h)
    · intro n hn ihn hn2
      obtain ⟨fr, best, g0, g1, g2, g3⟩ := stop n (by omega) hn2
      have a1 := addN p n (by omega)
      have a2 := addN at_ n (by omega)
      by_cases c1 : p + n < x.length
      · by_cases c2 : at_ + n < y.length
        · by_cases c3 : rd x ((p + n : Nat) : Int) = rd y ((at_ + n : Nat) : Int)
          · obtain ⟨fr, best, g0, g1, g2, g3⟩ := ihn (by omega)
            refine ⟨fr, best, g0, g1, Ev.step ?_, fun out r h => Ev.step ?_⟩
            · simp only [spec_l14Find.l1, a1, a2, upN n (by omega)]
              exact Ev.pos (by omega) (Ev.pos (by omega) (Ev.pos (by omega) (Ev.pos (by omega) (Ev.pos (by omega) (Ev.pos c3 g2)))))
            · simp only [impl_MakeDelta.l2, a1, a2, upN n (by omega)]
              exact Ev.pos (by omega) (Ev.pos (by omega) (Ev.pos (by omega) (Ev.pos (by omega) (Ev.pos (by omega) (Ev.pos c3 (g3 out r h))))))
          · refine ⟨fr, best, g0, g1, Ev.step ?_, fun out r h => Ev.step ?_⟩
            · simp only [spec_l14Find.l1, a1, a2]
              exact Ev.pos (by omega) (Ev.pos (by omega) (Ev.pos (by omega) (Ev.pos (by omega) (Ev.pos (by omega) (Ev.neg c3 g2)))))
            · simp only [impl_MakeDelta.l2, a1, a2]
              exact Ev.pos (by omega) (Ev.pos (by omega) (Ev.pos (by omega) (Ev.pos (by omega) (Ev.pos (by omega) (Ev.neg c3 (g3 out r h))))))
        · refine ⟨fr, best, g0, g1, Ev.step ?_, fun out r h => Ev.step ?_⟩
          · simp only [spec_l14Find.l1, a1, a2]
            exact Ev.pos (by omega) (Ev.pos (by omega) (Ev.neg (by omega) g2))
          · simp only [impl_MakeDelta.l2, a1, a2]
            exact Ev.pos (by omega) (Ev.pos (by omega) (Ev.neg (by omega) (g3 out r h)))
      · refine ⟨fr, best, g0, g1, Ev.step ?_, fun out r h => Ev.step ?_⟩
        · simp only [spec_l14Find.l1, a1, a2]
          exact Ev.pos (by omega) (Ev.neg (by omega) g2)
        · simp only [impl_MakeDelta.l2, a1, a2]
          exact Ev.pos (by omega) (Ev.neg (by omega) (g3 out r h))
/-- What the steps so far keep. -/
def StepsIn (n : Nat) (ds : List S62) : Prop := ds.length ≤ n ∧ ∀ d ∈ ds, d.f3.length ≤ n
theorem rd62 (l : List S62) (i : Nat) (h : i < l.length) : rd_T62 l (i : Int) = l[i] := by unfold rd_T62; simp [List.getD_eq_getElem?_getD, List.getElem?_eq_getElem h]
theorem StepsIn.snoc {n : Nat} {ds : List S62} (h : StepsIn n ds) (d : S62) (m : Nat) (hm : n < m) (hd : d.f3.length ≤ m) : StepsIn m (ds ++ [d]) := by
  refine ⟨by rw [List.length_append]; have := h.1; simp; omega, fun e he => ?_⟩
  rcases List.mem_append.1 he with he | he
  · have := h.2 e he; omega
  · rw [List.mem_singleton.1 he]; exact hd
theorem StepsIn.set {n : Nat} {ds : List S62} (h : StepsIn n ds) (i : Nat) (d : S62) (m : Nat) (hm : n ≤ m) (hd : d.f3.length ≤ m) : StepsIn m (ds.set i d) := by
  refine ⟨by rw [List.length_set]; have := h.1; omega, fun e he => ?_⟩
  rcases List.mem_or_eq_of_mem_set he with he | rfl
  · have := h.2 e he; omega
  · exact hd
set_option maxHeartbeats 400000 in
theorem MakeDelta_ev (x y : List Int) : ∃ r, Ev (fun k => spec_MakeDelta.f k x y) r ∧ Ev (fun k => impl_MakeDelta.f k x y) r ∧ StepsIn 3000 r := by
  have nil : StepsIn 3000 ([] : List S62) := ⟨by simp, by simp⟩
  unfold spec_MakeDelta.f impl_MakeDelta.f
  by_cases hx : (x.length : Int) > 3000
  · refine ⟨[], Ev.cons rfl (Ev.pos hx (Ev.step ?_)), Ev.pos hx (Ev.step ?_), nil⟩
    · simp only [spec_MakeDelta.j0]
      exact Ev.pos trivial Ev.pure
    · simp only [impl_MakeDelta.j0]
      exact Ev.pos trivial Ev.pure
  by_cases hy : (y.length : Int) > 3000
  · refine ⟨[], Ev.cons rfl (Ev.neg hx (Ev.step ?_)), Ev.neg hx (Ev.step ?_), nil⟩
    · simp only [spec_MakeDelta.j0]
      exact Ev.pos (decide_eq_true hy) Ev.pure
    · simp only [impl_MakeDelta.j0]
      exact Ev.pos (decide_eq_true hy) Ev.pure
  have key := downTo y.length (fun i => ∀ j : Nat, i ≤ j → j ≤ y.length → ∀ out : List S62, StepsIn j out → ∃ r, Ev (fun k => spec_MakeDelta.l0 k x y out (j : Int)) r ∧ Ev (fun k => impl_MakeDelta.l0 k x y out (j : Int)) r ∧ StepsIn 3000 r) ?_ ?_ 0 (by omega)
  · obtain ⟨r, h1, h2, h3⟩ := key 0 (by omega) (by omega) [] ⟨by simp, by simp⟩
    refine ⟨r, Ev.cons rfl (Ev.neg hx (Ev.step ?_)), Ev.neg hx (Ev.step ?_), h3⟩
    · simp only [spec_MakeDelta.j0]
      exact Ev.neg (by rw [decide_eq_false hy]; simp) h1
    · simp only [impl_MakeDelta.j0]
      exact Ev.neg (by rw [decide_eq_false hy]; simp) h2
  · intro j h0 h1 out ho
    have hl := ho.1
    refine ⟨out, Ev.step ?_, Ev.step ?_, by omega, fun d hd => by have := ho.2 d hd; omega⟩
    · simp only [spec_MakeDelta.l0]
      exact Ev.neg (by omega) (Ev.neg (by omega) Ev.pure)
    · simp only [impl_MakeDelta.l0]
      exact Ev.neg (by omega) (Ev.neg (by omega) Ev.pure)
  · intro i hi ih j h0 h1 out ho
    by_cases hj : j = y.length
    · have hl := ho.1
      refine ⟨out, Ev.step ?_, Ev.step ?_, by omega, fun d hd => by have := ho.2 d hd; omega⟩
      · simp only [spec_MakeDelta.l0]
        exact Ev.neg (by omega) (Ev.neg (by omega) Ev.pure)
      · simp only [impl_MakeDelta.l0]
        exact Ev.neg (by omega) (Ev.neg (by omega) Ev.pure)
    by_cases hij : i < j
    · exact ih j (by omega) h1 out ho
    have hj2 : j < y.length := by omega
    have hl := ho.1
    obtain ⟨fr, best, g0, g1, g2, g3⟩ := find_ev x y (by omega) (by omega) j (by omega)
    by_cases c1 : best ≥ 6
    · obtain ⟨r, r1, r2, r3⟩ := ih (j + best) (by omega) (by omega) (out ++ [⟨1, (fr : Int), (best : Int), []⟩]) (ho.snoc _ _ (by omega) (by simp))
      refine ⟨r, Ev.step ?_, Ev.step ?_, r3⟩
      · simp only [spec_MakeDelta.l0]
        refine Ev.pos (by omega) (Ev.bind g2 (Ev.pos (by simp only; omega) (Ev.pos (by omega) ?_)))
        simp only [addN j best (by omega)]
        exact r1
      · simp only [impl_MakeDelta.l0]
        refine Ev.pos (by omega) (g3 out r (Ev.step ?_))
        simp only [impl_MakeDelta.l1, addN j best (by omega)]
        exact Ev.neg (by omega) (Ev.pos (by omega) (Ev.pos (by omega) r2))
    · have add : ∃ r, Ev (fun k => spec_MakeDelta.l0 k x y (out ++ [⟨2, 0, 0, [rd y (j : Int)]⟩]) ((j + 1 : Nat) : Int)) r ∧ Ev (fun k => impl_MakeDelta.l0 k x y (out ++ [⟨2, 0, 0, [rd y (j : Int)]⟩]) ((j + 1 : Nat) : Int)) r ∧ StepsIn 3000 r :=
        ih (j + 1) (by omega) (by omega) _ (ho.snoc _ _ (by omega) (by simp))
      have grown : ∀ r, Ev (fun k => spec_MakeDelta.l0 k x y (out ++ [⟨2, 0, 0, [rd y (j : Int)]⟩]) ((j + 1 : Nat) : Int)) r →
          (wrap64 ((wrap64 ((out.length : Int) - 1)) + 1)) = ((out.length : Nat) : Int) := by
        intro _ _
        unfold wrap64
        omega
      have e1 : wrap64 ((wrap64 ((out.length : Int) - 1)) + 1) = ((out.length : Nat) : Int) := by unfold wrap64; omega
      have hset : ∀ v : S62, (out ++ [(⟨2, 0, 0, []⟩ : S62)]).set out.length v = out ++ [v] := fun v => by simp
      have hrd : rd_T62 (out ++ [(⟨2, 0, 0, []⟩ : S62)]) ((out.length : Nat) : Int) = ⟨2, 0, 0, []⟩ := by
        rw [rd62 _ _ (by simp)]
        simp
      have hen : (((out.length : Nat) : Int)).toNat = out.length := by omega
      obtain ⟨ra, ra1, ra2, ra3⟩ := add
      by_cases c2 : out.length = 0
      · refine ⟨ra, Ev.step ?_, Ev.step ?_, ra3⟩
        · simp only [spec_MakeDelta.l0, e1, upN j (by omega), hrd, hen, hset, List.nil_append]
          refine Ev.pos (by omega) (Ev.bind g2 (Ev.neg (by simp only; omega) (Ev.pos (by unfold wrap64; omega) (Ev.pos (by omega) ?_))))
          refine Ev.cons (a := out ++ [(⟨2, 0, 0, []⟩ : S62)]) rfl ?_
          simp only [hrd, hset, List.nil_append]
          exact Ev.pos (by omega) (Ev.pos (by simp; omega) (Ev.pos (by omega) (Ev.pos (by simp) ra1)))
        · simp only [impl_MakeDelta.l0]
          refine Ev.pos (by omega) (g3 out ra (Ev.step ?_))
          simp only [impl_MakeDelta.l1, upN j (by omega)]
          exact Ev.neg (by omega) (Ev.neg (by omega) (Ev.neg (by omega) (Ev.pos (by omega) (Ev.pos (by omega) (Ev.pos (by omega) ra2)))))
      · have e0 : wrap64 ((out.length : Int) - 1) = ((out.length - 1 : Nat) : Int) := dnN out.length (by omega) (by omega)
        have hlast : out.length - 1 < out.length := by omega
        have hr := rd62 out (out.length - 1) hlast
        have hm : (out[out.length - 1]).f3.length ≤ j := ho.2 _ (List.getElem_mem hlast)
        by_cases c3 : (out[out.length - 1]).f0 = 2
        · obtain ⟨r, r1, r2, r3⟩ := ih (j + 1) (by omega) (by omega) (out.set (out.length - 1) ⟨(out[out.length - 1]).f0, (out[out.length - 1]).f1, (out[out.length - 1]).f2, (out[out.length - 1]).f3 ++ [rd y (j : Int)]⟩) (ho.set _ _ _ (by omega) (by simp; omega))
          have hn2 : (((out.length - 1 : Nat) : Int)).toNat = out.length - 1 := by omega
          refine ⟨r, Ev.step ?_, Ev.step ?_, r3⟩
          · simp only [spec_MakeDelta.l0, e0, hr, upN j (by omega), hn2]
            exact Ev.pos (by omega) (Ev.bind g2 (Ev.neg (by simp only; omega) (Ev.neg (by omega) (Ev.pos (by omega) (Ev.pos (by omega) (Ev.pos c3 (Ev.pos (by omega) (Ev.pos (by omega) r1))))))))
          · simp only [impl_MakeDelta.l0]
            refine Ev.pos (by omega) (g3 out r (Ev.step ?_))
            simp only [impl_MakeDelta.l1, e0, hr, upN j (by omega), hn2]
            exact Ev.neg (by omega) (Ev.neg (by omega) (Ev.pos (by omega) (Ev.pos (by omega) (Ev.pos (by omega) (Ev.pos c3 (Ev.pos (by omega) (Ev.pos (by omega) (Ev.pos (by omega) r2))))))))
        · have e2 : wrap64 (((out.length - 1 : Nat) : Int) + 1) = ((out.length : Nat) : Int) := by rw [← e0]; exact e1
          refine ⟨ra, Ev.step ?_, Ev.step ?_, ra3⟩
          · simp only [spec_MakeDelta.l0, e0, e2, hr, upN j (by omega), hen, if_neg c3]
            clear c3 hr hm e0 e1 e2 grown
            refine Ev.pos (by omega) (Ev.bind g2 (Ev.neg (by simp only; omega) (Ev.neg (by omega) (Ev.pos (by omega) (Ev.pos (by omega) (Ev.pos (by omega) ?_))))))
            refine Ev.cons (a := out ++ [(⟨2, 0, 0, []⟩ : S62)]) rfl ?_
            simp only [hrd, hset, List.nil_append]
            exact Ev.pos (by omega) (Ev.pos (by simp; omega) (Ev.pos (by omega) (Ev.pos (by simp) ra1)))
          · simp only [impl_MakeDelta.l0]
            refine Ev.pos (by omega) (g3 out ra (Ev.step ?_))
            simp only [impl_MakeDelta.l1, e0, hr, upN j (by omega), if_neg c3]
            clear c3 hr hm e0 e1 e2 grown
            exact Ev.neg (by omega) (Ev.neg (by omega) (Ev.pos (by omega) (Ev.pos (by omega) (Ev.pos (by omega) (Ev.pos (by omega) (Ev.pos (by omega) (Ev.pos (by omega) ra2)))))))

-- EqB
theorem toByteS_ev (x : List Int) (hx : x.length ≤ 140737488355328) : Ev (fun k => laws_toByteS.f k x) x := Ev.of (x.length + 1) (fun k hk => toByteS_f x hx k (by omega))
theorem eqByteS_ev (x : List Int) (hx : x.length ≤ 140737488355328) : Ev (fun k => laws_eqByteS.f k x x) true := Ev.of (x.length + 1) (fun k hk => eqByteS_f x hx k (by omega))
theorem rdS62 (l : List S62) (i : Nat) (h : i < l.length) : rd_T62 l (i : Int) = l[i] := by unfold rd_T62; simp [List.getD_eq_getElem?_getD, List.getElem?_eq_getElem h]

-- StepOk
theorem specStep (a b c : Int) (l : List Int) : ∃ t, spec_l14StepOk.f a b c l = some t ∧ (t = true ↔ ((a = 1 ∧ 1 ≤ c ∧ c ≤ 268435455 ∧ 0 ≤ b ∧ b ≤ 268435455 ∧ l.length = 0) ∨ (a = 2 ∧ b = 0 ∧ c = 0 ∧ 0 < l.length))) := by
  unfold spec_l14StepOk.f
  repeat' split
  all_goals refine ⟨_, rfl, ?_⟩
  all_goals simp only [beq_iff_eq, decide_eq_true_eq, Bool.false_eq_true, false_iff]
  all_goals omega
theorem implStep (a b c : Int) (l : List Int) : ∃ t, impl_stepOk.f a b c l = some t ∧ (t = true ↔ ((a = 1 ∧ 1 ≤ c ∧ l.length = 0) ∨ (a = 2 ∧ b = 0 ∧ c = 0 ∧ 1 ≤ l.length))) := by
  unfold impl_stepOk.f
  repeat' split
  all_goals refine ⟨_, rfl, ?_⟩
  all_goals simp only [beq_iff_eq, Bool.false_eq_true, false_iff, true_iff]
  all_goals omega

-- DeltaB
theorem or128_all : ∀ c : Fin 128, Go.bits .or .u8 (c.val : Int) 128 = (c.val : Int) + 128 := by decide +kernel
theorem or128 (c : Int) (h0 : 0 ≤ c) (h1 : c < 128) : Go.bits .or .u8 c 128 = c + 128 := by
  have := or128_all ⟨c.toNat, by omega⟩
  simpa [Int.toNat_of_nonneg h0] using this
theorem and127 (x : Int) (h0 : 0 ≤ x) (h1 : x < 9223372036854775808) : Go.bits .and .i64 x 127 = x % 128 := by
  have := bits_mask .i64 63 (by decide) (fun n a b => i64w n (by omega) (by simpa using b)) 7 (by decide) x h0 (by simpa using h1)
  simpa using this
/-- A number in sevens: at most nine bytes. -/
theorem num_go (d : Nat) (hd : d ≤ 8) : ∀ (out : List Int) (n : Int), 0 ≤ n → n < 128 ^ d → out.length + d < 100000000000000 → ∃ r, Ev (fun k => spec_l10Num.l0 k out n) r ∧ Ev (fun k => impl_putSeven.l0 k out n) r ∧ r.length ≤ out.length + d + 1 := by
  induction d with
  | zero =>
    intro out n h0 h1 h2
    have hn : n < 128 := by simp at h1; omega
    refine ⟨out ++ [n % 256], Ev.step ?_, Ev.step ?_, by simp⟩
    · simp only [spec_l10Num.l0]
      exact Ev.neg (by omega) (Ev.pos (by omega) Ev.pure)
    · simp only [impl_putSeven.l0]
      exact Ev.neg (by omega) (Ev.pos (by omega) Ev.pure)
  | succ d ih =>
    intro out n h0 h1 h2
    by_cases c : n ≥ 128
    · have hp : (128 : Int) ^ (d + 1) = 128 ^ d * 128 := Int.pow_succ 128 d
      have hm : (128 : Int) ^ (d + 1) ≤ 128 ^ 8 := by
        have := Nat.pow_le_pow_right (n := 128) (by omega) hd
        exact_mod_cast this
      have hm2 : (128 : Int) ^ 8 = 72057594037927936 := by decide
      rw [hm2] at hm
      have hs : ∃ l : List Int, l = out ++ [n % 128 + 128] ∧ l.length = out.length + 1 := ⟨_, rfl, by simp⟩
      obtain ⟨l, hl, hll⟩ := hs
      obtain ⟨r, r1, r2, r3⟩ := ih (by omega) l (n / 128) (by omega) (by omega) (by omega)
      have e1 : Unit → (wrap64 ((Int.tmod n 128) + 128)) % 256 = n % 128 + 128 := fun _ => by
        rw [Int.tmod_eq_emod_of_nonneg h0, w64 _ (by omega) (by omega)]; omega
      have e2 : Unit → wrap64 (Int.tdiv n 128) = n / 128 := fun _ => by
        rw [Int.tdiv_eq_ediv_of_nonneg h0, w64 _ (by omega) (by omega)]
      have e3 : Unit → Go.bits .or .u8 ((Go.bits .and .i64 n 127) % 256) 128 = n % 128 + 128 := fun _ => by
        rw [and127 n h0 (by omega), Int.emod_eq_of_lt (by omega) (by omega), or128 _ (by omega) (by omega)]
      refine ⟨r, Ev.step ?_, Ev.step ?_, by omega⟩
      · simp only [spec_l10Num.l0, e1 (), e2 (), ← hl]
        exact Ev.pos c (Ev.pos (by omega) r1)
      · simp only [impl_putSeven.l0, e3 (), ← hl]
        exact Ev.pos (by omega) (Ev.pos (by omega) r2)
    · refine ⟨out ++ [n % 256], Ev.step ?_, Ev.step ?_, by rw [List.length_append, List.length_singleton]; omega⟩
      · simp only [spec_l10Num.l0]
        exact Ev.neg (by omega) (Ev.pos (by omega) Ev.pure)
      · simp only [impl_putSeven.l0]
        exact Ev.neg (by omega) (Ev.pos (by omega) Ev.pure)
theorem num_ev (out : List Int) (n : Int) (h0 : 0 ≤ n) (h1 : n < 72057594037927936) (h2 : out.length + 8 < 100000000000000) : ∃ r, Ev (fun k => spec_l10Num.f k out n) r ∧ Ev (fun k => impl_putSeven.f k out n) r ∧ r.length ≤ out.length + 9 := by
  unfold spec_l10Num.f impl_putSeven.f
  exact num_go 8 (by omega) out n h0 (by rw [show (128 : Int) ^ 8 = 72057594037927936 by decide]; exact h1) h2
theorem DeltaBytes_ev (ds : List S62) (hd : ds.length ≤ 1048576) (ok : ∀ s ∈ ds, s.f3.length ≤ 1048576) :
    ∃ r, Ev (fun k => spec_DeltaBytes.f k ds) r ∧ Ev (fun k => impl_DeltaBytes.f k ds) r ∧ r.length ≤ 50000000000 := by
  unfold spec_DeltaBytes.f impl_DeltaBytes.f
  by_cases c0 : (ds.length : Int) > 10000
  · exact ⟨[], Ev.pos c0 Ev.pure, Ev.pos c0 Ev.pure, by simp⟩
  have key := downTo ds.length (fun i => ∀ out : List Int, out.length ≤ 4 + i * 1048600 → ∃ r, Ev (fun k => spec_DeltaBytes.l0 k ds out (i : Int)) r ∧ Ev (fun k => impl_DeltaBytes.l0 k out ds (ds.length : Int) (i : Int)) r ∧ r.length ≤ 50000000000) ?_ ?_ 0 (by omega) [76, 68, 84, 49] (by simp)
  · obtain ⟨r, h1, h2, h3⟩ := key
    exact ⟨r, Ev.neg c0 h1, Ev.neg c0 h2, h3⟩
  · intro out ho
    refine ⟨out, Ev.step ?_, Ev.step ?_, by omega⟩
    · simp only [spec_DeltaBytes.l0]
      exact Ev.neg (by omega) Ev.pure
    · simp only [impl_DeltaBytes.l0]
      exact Ev.neg (by omega) Ev.pure
  · intro i hi ih out ho
    have hl := ok _ (List.getElem_mem hi)
    obtain ⟨ts, es, is⟩ := specStep (ds[i]).f0 (ds[i]).f1 (ds[i]).f2 (ds[i]).f3
    obtain ⟨ti, ei, ii⟩ := implStep (ds[i]).f0 (ds[i]).f1 (ds[i]).f2 (ds[i]).f3
    generalize hk : (ds[i]).f0 = kind at *
    generalize ha : (ds[i]).f1 = at_ at *
    generalize hn : (ds[i]).f2 = n at *
    generalize hdt : (ds[i]).f3 = dt at *
    have up : Unit → wrap64 ((i : Int) + 1) = ((i + 1 : Nat) : Int) := fun _ => upN i (by omega)
    have hlen : (out ++ [kind % 256]).length = out.length + 1 := by simp
    have fin : ∀ b : Bool, b = true → Ev (fun k => impl_DeltaBytes.j1 k (out ++ [kind % 256]) ds (ds.length : Int) (i : Int) b kind at_ n dt) ([] : List Int) := by
      intro b hb
      refine Ev.step ?_
      simp only [impl_DeltaBytes.j1]
      exact Ev.pos hb Ev.pure
    by_cases g1 : kind = 1 ∧ 1 ≤ n ∧ n ≤ 268435455 ∧ 0 ≤ at_ ∧ at_ ≤ 268435455 ∧ dt.length = 0
    · obtain ⟨k1, n1, n2, a0, a1, d0⟩ := g1
      have et : ts = true := is.2 (Or.inl ⟨k1, n1, n2, a0, a1, d0⟩)
      have ez : ti = true := ii.2 (Or.inl ⟨k1, n1, d0⟩)
      subst et
      subst ez
      clear is ii
      obtain ⟨r1, s1, i1, l1⟩ := num_ev (out ++ [kind % 256]) at_ a0 (by omega) (by rw [hlen]; omega)
      obtain ⟨r2, s2, i2, l2⟩ := num_ev r1 n (by omega) (by omega) (by omega)
      obtain ⟨r, h1, h2, h3⟩ := ih r2 (by omega)
      refine ⟨r, Ev.step ?_, Ev.step ?_, h3⟩
      · simp only [spec_DeltaBytes.l0, rdS62 ds i hi, hk, ha, hn, hdt, up ()]
        exact Ev.pos (by omega) (Ev.pos (by omega) (Ev.cons es (Ev.pos rfl (Ev.pos (by omega) (Ev.cons rfl (Ev.pos k1 (Ev.bind s1 (Ev.bind s2 h1))))))))
      · have f2 : decide (n > 268435455) = false := decide_eq_false (by omega)
        simp only [impl_DeltaBytes.l0, rdS62 ds i hi, hk, ha, hn, hdt, f2]
        refine Ev.pos (by omega) (Ev.pos (by omega) (Ev.pos (by omega) (Ev.cons ei (Ev.pos rfl (Ev.pos (by omega) (Ev.cons rfl (Ev.pos k1 (Ev.neg (by omega) (Ev.neg (by omega) (Ev.step ?_))))))))))
        simp only [impl_DeltaBytes.j1, up ()]
        exact Ev.neg (by simp) (Ev.bind i1 (Ev.bind i2 h2))
    by_cases g2 : kind = 2 ∧ at_ = 0 ∧ n = 0 ∧ 1 ≤ dt.length
    · obtain ⟨k1, a0, n0, d0⟩ := g2
      have et : ts = true := is.2 (Or.inr ⟨k1, a0, n0, by omega⟩)
      have ez : ti = true := ii.2 (Or.inr ⟨k1, a0, n0, d0⟩)
      subst et
      subst ez
      clear is ii
      obtain ⟨r1, s1, i1, l1⟩ := num_ev (out ++ [kind % 256]) (dt.length : Int) (by omega) (by omega) (by rw [hlen]; omega)
      obtain ⟨r, h1, h2, h3⟩ := ih (r1 ++ dt) (by rw [List.length_append]; omega)
      refine ⟨r, Ev.step ?_, Ev.step ?_, h3⟩
      · simp only [spec_DeltaBytes.l0, rdS62 ds i hi, hk, ha, hn, hdt, up ()]
        exact Ev.pos (by omega) (Ev.pos (by omega) (Ev.cons es (Ev.pos rfl (Ev.pos (by omega) (Ev.cons rfl (Ev.neg (by omega) (Ev.bind s1 (Ev.pos (by omega) h1))))))))
      · simp only [impl_DeltaBytes.l0, rdS62 ds i hi, hk, ha, hn, hdt, up ()]
        exact Ev.pos (by omega) (Ev.pos (by omega) (Ev.pos (by omega) (Ev.cons ei (Ev.pos rfl (Ev.pos (by omega) (Ev.cons rfl (Ev.neg (by omega) (Ev.bind i1 (Ev.pos (by omega) h2)))))))))
    · have et : ts = false := by
        cases ts
        · rfl
        · have := is.1 rfl
          omega
      subst et
      refine ⟨[], Ev.step ?_, Ev.step ?_, by simp⟩
      · simp only [spec_DeltaBytes.l0, rdS62 ds i hi, hk, ha, hn, hdt]
        exact Ev.pos (by omega) (Ev.pos (by omega) (Ev.cons es (Ev.neg (by simp) Ev.pure)))
      · simp only [impl_DeltaBytes.l0, rdS62 ds i hi, hk, ha, hn, hdt]
        refine Ev.pos (by omega) (Ev.pos (by omega) (Ev.pos (by omega) (Ev.cons ei ?_)))
        cases ti
        · exact Ev.neg (by simp) Ev.pure
        · have h := ii.1 rfl
          refine Ev.pos rfl (Ev.pos (by omega) (Ev.cons rfl (Ev.pos (by omega) ?_)))
          by_cases a0 : at_ < 0
          · exact Ev.pos a0 (fin true rfl)
          by_cases a1 : at_ > 268435455
          · exact Ev.neg a0 (Ev.pos a1 (fin true rfl))
          · exact Ev.neg a0 (Ev.neg a1 (fin _ (decide_eq_true (by omega))))

theorem FnExactSaved : laws_FnExactSaved.Pure := by
  intro x y _ _ _ _ _ _
  refine Ev.at ?_
  unfold laws_FnExactSaved.f
  by_cases cx : (x.length : Int) > 1048576
  · exact Ev.pos cx Ev.pure
  by_cases cy : (y.length : Int) > 1048576
  · exact Ev.neg cx (Ev.pos cy Ev.pure)
  have tx := toByteS_ev x (by omega)
  have ty := toByteS_ev y (by omega)
  have ex := eqByteS_ev x (by omega)
  have ey := eqByteS_ev y (by omega)
  obtain ⟨r, r1, r2, hl, hd⟩ := MakeDelta_ev x y
  obtain ⟨b, b1, b2, b3⟩ := DeltaBytes_ev r (by omega) (fun p hp => by have := hd p hp; omega)
  have key : ∃ t, Ev (fun k => spec_Saved.f k x y) t ∧ Ev (fun k => impl_Saved.f k x y) t := by
    unfold spec_Saved.f impl_Saved.f
    by_cases c1 : (r.length : Int) = 0
    · by_cases c2 : (y.length : Int) > 0
      · exact ⟨_, Ev.bind r1 (Ev.pos c1 (Ev.pos c2 Ev.pure)), Ev.bind r2 (Ev.pos c1 (Ev.pos c2 Ev.pure))⟩
      · exact ⟨_, Ev.bind r1 (Ev.pos c1 (Ev.neg c2 (Ev.bind b1 Ev.pure))), Ev.bind r2 (Ev.pos c1 (Ev.neg c2 (Ev.bind b2 Ev.pure)))⟩
    · exact ⟨_, Ev.bind r1 (Ev.neg c1 (Ev.bind b1 Ev.pure)), Ev.bind r2 (Ev.neg c1 (Ev.bind b2 Ev.pure))⟩
  obtain ⟨t, t1, t2⟩ := key
  exact Ev.neg cx (Ev.neg cy (Ev.bind tx (Ev.bind ty (Ev.bind t1 (Ev.bind tx (Ev.bind ty (Ev.bind t2 (Ev.pos rfl (Ev.bind tx (Ev.bind ex (Ev.pos rfl (Ev.bind ty (Ev.bind ey (Ev.pos rfl Ev.pure))))))))))))))

end Go.Proofs.Ytkijlpiiiejjkaa.Pure
