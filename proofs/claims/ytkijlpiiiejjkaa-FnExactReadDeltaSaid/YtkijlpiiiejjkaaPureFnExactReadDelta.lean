/- The pure statement of FnExactReadDelta: what the code takes the spec takes, and what the code takes not is written anew as other bytes. -/
import Derived.Test.YtkijlpiiiejjkaaPFnExactReadDeltax0
import Derived.Test.YtkijlpiiiejjkaaPFnExactReadDeltax1
import Derived.Test.YtkijlpiiiejjkaaPFnExactReadDeltax2
import Derived.Test.YtkijlpiiiejjkaaPFnExactReadDeltax3
import Derived.Test.YtkijlpiiiejjkaaPFnExactReadDeltax4
import Derived.Test.YtkijlpiiiejjkaaPFnExactReadDeltax5
import Derived.Laws.BitsLemmas
import Derived.Laws.Bits64b
import Derived.Lib.Bytealg
namespace Go.Proofs.Ytkijlpiiiejjkaa.Pure
open Go.RowKit Go.Proofs.YtkijlpiiiejjkaaW.PrintWords Go.Proofs.YtkijlpiiiejjkaaW.PrintLast Go.Proofs.YtkijlpiiiejjkaaW.PrintMore Go.Proofs.Ytkijlpiiiejjkaa.PFnExactReadDelta

theorem u64w (n : Int) (h0 : 0 ≤ n) (h1 : n < 18446744073709551616) : IntKind.u64.wrap n = n := by
  simp [IntKind.wrap, IntKind.signed, IntKind.bits]; omega
theorem i64w (n : Int) (h0 : -9223372036854775808 ≤ n) (h1 : n < 9223372036854775808) : IntKind.i64.wrap n = n := by
  rw [IntKind.wrap_i64]; omega
theorem w64 (n : Int) (h0 : -9223372036854775808 ≤ n) (h1 : n < 9223372036854775808) : wrap64 n = n := by unfold wrap64; omega
theorem up1 (i : Int) (h0 : 0 ≤ i) (h : i < 9223372036854775807) : wrap64 (i + 1) = i + 1 := by unfold wrap64; omega
theorem u64_lo (n : Int) : 0 ≤ IntKind.u64.wrap n := by simp [IntKind.wrap, IntKind.signed, IntKind.bits]; omega
theorem u64_hi (n : Int) : IntKind.u64.wrap n < 18446744073709551616 := by simp [IntKind.wrap, IntKind.signed, IntKind.bits]; omega
theorem u64_wf (x : Int) (h : (Lit.int .u64 x).wf = true) : 0 ≤ x ∧ x < 18446744073709551616 := by
  simp [Lit.wf, IntKind.min, IntKind.max, IntKind.signed, IntKind.bits] at h; omega
theorem and31 (x : Int) (h0 : 0 ≤ x) (h1 : x < 18446744073709551616) : Go.bits .and .u64 x 31 = x % 32 := by
  have := bits_mask .u64 64 (by decide) (fun n a b => u64w n a (by simpa using b)) 5 (by decide) x h0 (by simpa using h1)
  simpa using this
theorem or5 (a c : Int) (h0 : 0 ≤ a) (h1 : a * 32 < 18446744073709551616) (hc0 : 0 ≤ c) (hc : c < 32) : Go.bits .or .u64 (a * 32) c = a * 32 + c := by
  have := bits_join .u64 64 (by decide) (fun n x y => u64w n x (by simpa using y)) 5 (a * 32) c (by omega) (by omega) (by simpa using h1) hc0 (by simpa using hc) (by simp; omega)
  exact this
theorem bt_list (l : List UInt8) (i : Int) : bt ⟨l.toArray⟩ i = ((l.getD i.toNat 0).toNat : Int) := by
  unfold bt
  split
  · rename_i h
    have h' : i.toNat < l.length := by simpa [ByteArray.size] using h
    rw [List.getD_eq_getElem?_getD, List.getElem?_eq_getElem h']
    rfl
  · rename_i h
    have h' : l.length ≤ i.toNat := by simpa [ByteArray.size] using h
    rw [List.getD_eq_getElem?_getD, List.getElem?_eq_none h']; rfl
/-- The alphabet of chapter 1. -/
def alpha : ByteArray := ⟨#[48, 49, 50, 51, 52, 53, 54, 55, 56, 57, 97, 98, 99, 100, 102, 103, 104, 105, 106, 107, 108, 109, 110, 112, 113, 114, 115, 118, 119, 120, 121, 122]⟩
/-- The n-th digit from the right, as its byte. -/
def dg (x : Int) (n : Nat) : Int := bt alpha (x / 2 ^ (5 * n) % 32)
/-- The last n digits. -/
def ds (x : Int) : Nat → List Int
  | 0 => []
  | n + 1 => dg x n :: ds x n
theorem ds_length (x : Int) : ∀ n, (ds x n).length = n
  | 0 => rfl
  | n + 1 => by simp [ds, ds_length x n]
/-- The thirteen bytes. -/
def word (x : Int) : ByteArray := strOfNums (ds x 13)
theorem div_lo (x : Int) (h0 : 0 ≤ x) (n : Nat) : 0 ≤ x / 2 ^ n := Int.ediv_nonneg h0 (by have := Nat.two_pow_pos n; exact_mod_cast Nat.zero_le _)
theorem div_hi (x : Int) (h0 : 0 ≤ x) (n : Nat) : x / 2 ^ n ≤ x := Int.ediv_le_self _ h0
theorem shr5 (x : Int) (n : Nat) (hn : n ≤ 12) : shr .u64 x (5 * n) = x / 2 ^ (5 * n) := by
  unfold shr
  have e : (5 * (n : Int)).toNat = 5 * n := by omega
  rw [e, Nat.min_eq_left (by simp [IntKind.bits]; omega)]
/-- What a byte is worth as a digit; -1: it is none. -/
def dv (c : Int) : Int := Lib.indexByte alpha.data.toList c.toNat.toUInt8
theorem dv_all : ∀ c : Fin 256, -1 ≤ dv (c.val : Int) ∧ dv (c.val : Int) < 32 := by decide +kernel
theorem dv_bounds (c : Int) (h0 : 0 ≤ c) (h1 : c ≤ 255) : -1 ≤ dv c ∧ dv c < 32 := by
  have := dv_all ⟨c.toNat, by omega⟩
  simpa [Int.toNat_of_nonneg h0] using this
/-- The number that thirteen digits tell, from the i-th on. -/
def rwGo (s : ByteArray) : Nat → Int → Nat → Int × Bool
  | 0, x, _ => (x, true)
  | d + 1, x, i => if dv (bt s i) < 0 then (0, false) else if i = 0 ∧ dv (bt s i) > 15 then (0, false) else rwGo s d (x * 32 + dv (bt s i)) (i + 1)
def rw32 (s : ByteArray) : Int × Bool := if s.size = 13 then rwGo s 13 0 0 else (0, false)
/-- The bound that the digits so far keep. -/
def lim (d : Nat) : Int := if d = 13 then 1 else 2 ^ (64 - 5 * d)
theorem lim_all : ∀ d : Fin 13, lim d.val ≤ 18446744073709551616 ∧ 0 < lim d.val ∧ (d.val < 12 → lim (d.val + 1) * 32 = lim d.val) ∧ (d.val = 12 → lim d.val = 16) ∧ lim (d.val + 1) * 32 ≤ 18446744073709551616 := by decide +kernel
theorem word_size (x : Int) : (word x).size = 13 := by unfold word; rw [strOfNums_size, ds_length]

-- Ev
/-- With fuel enough the run answers r. -/
def Ev {α : Type} (f : Nat → Option α) (r : α) : Prop := ∃ K, ∀ k, K ≤ k → f k = some r
theorem Ev.pure {α : Type} {r : α} : Ev (fun _ => some r) r := ⟨0, fun _ _ => rfl⟩
theorem Ev.of {α : Type} {f : Nat → Option α} {r : α} (N : Nat) (h : ∀ k, N ≤ k → f k = some r) : Ev f r := ⟨N, h⟩
theorem Ev.step {α : Type} {f : Nat → Option α} {r : α} (h : Ev (fun k => f (k + 1)) r) : Ev f r := by
  obtain ⟨K, h⟩ := h
  refine ⟨K + 1, fun k hk => ?_⟩
  obtain ⟨m, rfl⟩ : ∃ m, k = m + 1 := ⟨k - 1, by omega⟩
  exact h m (by omega)
theorem Ev.bind {α β : Type} {f : Nat → Option α} {g : Nat → α → Option β} {a : α} {r : β} (h : Ev f a) (h2 : Ev (fun k => g k a) r) : Ev (fun k => (f k).bind (g k)) r := by
  obtain ⟨K, h⟩ := h
  obtain ⟨K2, h2⟩ := h2
  refine ⟨K + K2, fun k hk => ?_⟩
  show (f k).bind (g k) = some r
  rw [h k (by omega)]
  exact h2 k (by omega)
theorem Ev.cons {α β : Type} {x : Option α} {g : Nat → α → Option β} {a : α} {r : β} (h : x = some a) (h2 : Ev (fun k => g k a) r) : Ev (fun k => x.bind (g k)) r := by
  subst h
  exact h2
theorem Ev.pos {α : Type} {c : Prop} [Decidable c] {f g : Nat → Option α} {r : α} (hc : c) (h : Ev f r) : Ev (fun k => if c then f k else g k) r := by
  simpa only [if_pos hc] using h
theorem Ev.neg {α : Type} {c : Prop} [Decidable c] {f g : Nat → Option α} {r : α} (hc : ¬ c) (h : Ev g r) : Ev (fun k => if c then f k else g k) r := by
  simpa only [if_neg hc] using h
theorem Ev.at {α : Type} {f : Nat → Option α} {r : α} (h : Ev f r) : ∃ k, f k = some r := by
  obtain ⟨K, h⟩ := h
  exact ⟨K, h K (Nat.le_refl _)⟩
theorem Ev.uniq {α : Type} {f : Nat → Option α} {r s : α} (h : Ev f r) (h2 : Ev f s) : r = s := by
  obtain ⟨K, h⟩ := h
  obtain ⟨K2, h2⟩ := h2
  have a := h (K + K2) (by omega)
  have b := h2 (K + K2) (by omega)
  rw [a] at b
  exact Option.some.inj b
/-- From the end down. -/
theorem downTo (n : Nat) (P : Nat → Prop) (base : P n) (step : ∀ i, i < n → P (i + 1) → P i) : ∀ i, i ≤ n → P i := by
  intro i hi
  obtain ⟨d, rfl⟩ : ∃ d, i = n - d := ⟨n - i, by omega⟩
  clear hi
  induction d with
  | zero => exact base
  | succ d ih =>
    by_cases h : d < n
    · refine step _ (by omega) ?_
      have e : n - (d + 1) + 1 = n - d := by omega
      rw [e]; exact ih
    · have e : n - (d + 1) = n - d := by omega
      rw [e]; exact ih
theorem upN (i : Nat) (h : i < 1000000000000000) : wrap64 ((i : Int) + 1) = ((i + 1 : Nat) : Int) := by unfold wrap64; omega
theorem dnN (i : Nat) (h : i < 1000000000000000) (h0 : 0 < i) : wrap64 ((i : Int) - 1) = ((i - 1 : Nat) : Int) := by unfold wrap64; omega
/-- A loop that sets place by place leaves the row's picture. -/
theorem setLoop {A B : Type} (L : Nat → List B → Int → Option (List B)) (x : List A) (c : A → B)
    (step : ∀ (i : Nat) (y : List B) (r : List B) (h : i < x.length), y.length = x.length → Ev (fun k => L k (y.set i (c x[i])) ((i + 1 : Nat) : Int)) r → Ev (fun k => L k y (i : Int)) r)
    (stop : ∀ y : List B, y.length = x.length → Ev (fun k => L k y ((x.length : Nat) : Int)) y) :
    ∀ y : List B, y.length = x.length → Ev (fun k => L k y 0) (x.map c) := by
  have main := downTo x.length (fun i => ∀ y : List B, y.length = x.length → y.take i = (x.map c).take i → Ev (fun k => L k y (i : Int)) (x.map c)) ?_ ?_
  · intro y hy
    exact main 0 (by omega) y hy (by simp)
  · intro y hy he
    rw [List.take_of_length_le (by omega), List.take_of_length_le (by simp)] at he
    have := stop y hy
    rw [he] at this
    rw [he] at hy
    exact he ▸ stop y (by rw [he]; exact hy)
  · intro i hi ih y hy he
    refine step i y _ hi hy (ih _ (by simp [hy]) ?_)
    rw [List.take_add_one, List.take_add_one, List.take_set_of_le (by omega), he, List.getElem?_set_self (by omega)]
    simp [List.getElem?_eq_getElem hi]
theorem countLoop {α : Type} (L : Nat → Int → Option α) (n : Nat) (r : α) (step : ∀ i : Nat, i < n → Ev (fun k => L k ((i + 1 : Nat) : Int)) r → Ev (fun k => L k (i : Int)) r) (stop : Ev (fun k => L k ((n : Nat) : Int)) r) : Ev (fun k => L k 0) r :=
  downTo n (fun i => Ev (fun k => L k (i : Int)) r) stop (fun i hi h => step i hi h) 0 (by omega)

-- toByteS
theorem toByteS_loop (x : List Int) (hx : x.length ≤ 140737488355328) (d : Nat) : ∀ (k : Nat) (y : List Int) (i : Int), y.length = x.length → 0 ≤ i → i ≤ x.length → (x.length : Int) - i = d → d < k → y.take i.toNat = x.take i.toNat →
    laws_toByteS.l0 k x y i = some x := by
  induction d with
  | zero =>
    intro k y i hy h0 h1 hd hk he
    obtain ⟨k, rfl⟩ : ∃ m, k = m + 1 := ⟨k - 1, by omega⟩
    simp only [laws_toByteS.l0]
    rw [if_neg (by omega)]
    rw [List.take_of_length_le (by omega), List.take_of_length_le (by omega)] at he
    rw [he]
  | succ d ih =>
    intro k y i hy h0 h1 hd hk he
    obtain ⟨k, rfl⟩ : ∃ m, k = m + 1 := ⟨k - 1, by omega⟩
    simp only [laws_toByteS.l0]
    rw [if_pos (by omega), if_pos h0, if_pos (by omega), up1 i h0 (by omega)]
    refine ih k _ _ (by simp [hy]) (by omega) (by omega) (by omega) (by omega) ?_
    have e1 : (i + 1).toNat = i.toNat + 1 := by omega
    rw [e1, List.take_add_one, List.take_add_one, List.take_set_of_le (by omega), he, List.getElem?_set_self (by omega)]
    unfold rd
    rw [List.getElem?_eq_getElem (show i.toNat < x.length by omega)]
    simp [List.getD_eq_getElem?_getD, List.getElem?_eq_getElem (show i.toNat < x.length by omega)]
theorem toByteS_f (x : List Int) (hx : x.length ≤ 140737488355328) (k : Nat) (hk : x.length < k) : laws_toByteS.f k x = some x := by
  unfold laws_toByteS.f
  rw [if_pos (by omega), if_pos (by omega)]
  exact toByteS_loop x hx x.length k _ 0 (by simp) (by omega) (by omega) (by omega) hk (by simp)

-- eqByteS
theorem eqByteS_loop (x : List Int) (hx : x.length ≤ 140737488355328) (d : Nat) : ∀ (k : Nat) (i : Int), 0 ≤ i → i ≤ x.length → (x.length : Int) - i = d → d < k → laws_eqByteS.l0 k x x i = some true := by
  induction d with
  | zero =>
    intro k i h0 h1 hd hk
    obtain ⟨k, rfl⟩ : ∃ m, k = m + 1 := ⟨k - 1, by omega⟩
    simp only [laws_eqByteS.l0]
    rw [if_neg (by omega)]
  | succ d ih =>
    intro k i h0 h1 hd hk
    obtain ⟨k, rfl⟩ : ∃ m, k = m + 1 := ⟨k - 1, by omega⟩
    simp only [laws_eqByteS.l0]
    rw [if_pos (by omega), if_pos h0, if_pos (by omega), up1 i h0 (by omega)]
    simp only [if_true]
    exact ih k _ (by omega) (by omega) (by omega) (by omega)
theorem eqByteS_f (x : List Int) (hx : x.length ≤ 140737488355328) (k : Nat) (hk : x.length < k) : laws_eqByteS.f k x x = some true := by
  unfold laws_eqByteS.f
  rw [if_pos rfl]
  exact eqByteS_loop x hx x.length k 0 (by omega) (by omega) (by omega) hk

-- StepS
theorem specStep (a b c : Int) (l : List Int) : ∃ t, spec_l14StepOk.f a b c l = some t ∧ (t = true ↔ ((a = 1 ∧ 1 ≤ c ∧ c ≤ 268435455 ∧ 0 ≤ b ∧ b ≤ 268435455 ∧ l.length = 0) ∨ (a = 2 ∧ b = 0 ∧ c = 0 ∧ 0 < l.length))) := by
  unfold spec_l14StepOk.f
  repeat' split
  all_goals refine ⟨_, rfl, ?_⟩
  all_goals simp only [beq_iff_eq, decide_eq_true_eq, Bool.false_eq_true, false_iff]
  all_goals omega

-- ReadNum
/-- The bytes of a number in sevens: all but the last carry the eighth bit. -/
def Dig : List Int → Prop
  | [] => False
  | [c] => 0 ≤ c ∧ c < 128
  | c :: d :: t => 128 ≤ c ∧ c < 256 ∧ Dig (d :: t)
def dval : List Int → Int
  | [] => 0
  | c :: t => c % 128 + 128 * dval t
def lastNZ : List Int → Bool
  | [] => false
  | [c] => !(c == 0)
  | _ :: d :: t => lastNZ (d :: t)
def mnD (ds : List Int) : Bool := lastNZ ds || ds.length == 1
theorem Dig.pos : ∀ {ds : List Int}, Dig ds → 0 < ds.length
  | [], h => h.elim
  | _ :: _, _ => by simp
theorem dval_lt : ∀ (ds : List Int), Dig ds → 0 ≤ dval ds ∧ dval ds < 128 ^ ds.length
  | [], h => h.elim
  | [c], h => by
    obtain ⟨h0, h1⟩ : 0 ≤ c ∧ c < 128 := h
    simp only [dval, List.length_singleton, Int.pow_one]
    omega
  | c :: d :: t, h => by
    obtain ⟨h0, h1, h2⟩ : 128 ≤ c ∧ c < 256 ∧ Dig (d :: t) := h
    have := dval_lt (d :: t) h2
    have e : (128 : Int) ^ (c :: d :: t).length = 128 ^ (d :: t).length * 128 := by rw [List.length_cons, Int.pow_succ]
    rw [e]
    rw [show dval (c :: d :: t) = c % 128 + 128 * dval (d :: t) from rfl]
    omega
theorem dval_four (ds : List Int) (h : Dig ds) (hl : ds.length ≤ 4) : 0 ≤ dval ds ∧ dval ds < 268435456 := by
  have h1 := dval_lt ds h
  have h2 : (128 : Int) ^ ds.length ≤ 128 ^ 4 := by
    have := Nat.pow_le_pow_right (n := 128) (by omega) hl
    exact_mod_cast this
  rw [show (128 : Int) ^ 4 = 268435456 by decide] at h2
  omega
theorem lastNZ_pos : ∀ (ds : List Int), Dig ds → lastNZ ds = true → 1 ≤ dval ds
  | [], h, _ => h.elim
  | [c], h, e => by
    obtain ⟨h0, h1⟩ : 0 ≤ c ∧ c < 128 := h
    simp [lastNZ] at e
    simp only [dval]
    omega
  | c :: d :: t, h, e => by
    obtain ⟨h0, h1, h2⟩ : 128 ≤ c ∧ c < 256 ∧ Dig (d :: t) := h
    have := lastNZ_pos (d :: t) h2 e
    rw [show dval (c :: d :: t) = c % 128 + 128 * dval (d :: t) from rfl]
    omega
/-- A number written anew: its own bytes, or fewer. -/
theorem enc_dig : ∀ (ds : List Int), Dig ds → ds.length ≤ 4 → ∀ out : List Int, out.length + ds.length < 10000000000000 →
    ∃ r, Ev (fun k => spec_l10Num.l0 k out (dval ds)) r ∧ (out.length ≤ r.length ∧ r.length ≤ out.length + ds.length) ∧ (mnD ds = true → r = out ++ ds) ∧ (mnD ds = false → r.length < out.length + ds.length)
  | [], h, _, _, _ => h.elim
  | [c], h, _, out, ho => by
    obtain ⟨h0, h1⟩ : 0 ≤ c ∧ c < 128 := h
    rw [List.length_singleton] at ho
    have e : dval [c] = c := by simp only [dval]; omega
    rw [e]
    refine ⟨out ++ [c % 256], Ev.step ?_, ⟨by simp, by simp⟩, fun _ => by rw [show c % 256 = c by omega], fun h => by simp [mnD] at h⟩
    simp only [spec_l10Num.l0]
    exact Ev.neg (by omega) (Ev.pos (by omega) Ev.pure)
  | c :: d :: t, h, hl, out, ho => by
    obtain ⟨h0, h1, h2⟩ : 128 ≤ c ∧ c < 256 ∧ Dig (d :: t) := h
    have hv := dval_four (c :: d :: t) ⟨h0, h1, h2⟩ hl
    have hw := dval_four (d :: t) h2 (by simp at hl ⊢; omega)
    have e : dval (c :: d :: t) = c % 128 + 128 * dval (d :: t) := rfl
    have hll : (c :: d :: t).length = (d :: t).length + 1 := rfl
    have hpos : 0 < (d :: t).length := by simp
    have hm : mnD (c :: d :: t) = lastNZ (d :: t) := by
      have : ((c :: d :: t).length == 1) = false := by simp
      unfold mnD
      rw [this, Bool.or_false]; rfl
    by_cases cv : 1 ≤ dval (d :: t)
    · have hs : ∃ l : List Int, l = out ++ [c] ∧ l.length = out.length + 1 := ⟨_, rfl, by simp⟩
      obtain ⟨l, hl1, hl2⟩ := hs
      obtain ⟨r, r1, r2, r3, r4⟩ := enc_dig (d :: t) h2 (by omega) l (by omega)
      generalize hn : dval (c :: d :: t) = n at *
      generalize hn2 : dval (d :: t) = v at *
      have e1 : Unit → (wrap64 ((Int.tmod n 128) + 128)) % 256 = c := fun _ => by
        rw [Int.tmod_eq_emod_of_nonneg hv.1, w64 _ (by omega) (by omega)]; omega
      have e2 : Unit → wrap64 (Int.tdiv n 128) = v := fun _ => by
        rw [Int.tdiv_eq_ediv_of_nonneg hv.1, w64 _ (by omega) (by omega)]; omega
      refine ⟨r, Ev.step ?_, ⟨by omega, by omega⟩, fun hmn => ?_, fun hmn => ?_⟩
      · simp only [spec_l10Num.l0, e1 (), e2 (), ← hl1]
        exact Ev.pos (by omega) (Ev.pos (by omega) r1)
      · rw [hm] at hmn
        rw [r3 (by unfold mnD; rw [hmn]; rfl), hl1]
        simp
      · rw [hm] at hmn
        have : mnD (d :: t) = false := by
          unfold mnD
          rw [hmn, Bool.false_or]
          cases t with
          | nil =>
            exfalso
            have hd : d = 0 := by simpa [lastNZ] using hmn
            subst hd
            simp [dval] at hn2
            omega
          | cons x y => simp
        have := r4 this
        omega
    · have hz : lastNZ (d :: t) = false := by
        cases hq : lastNZ (d :: t)
        · rfl
        · exact absurd (lastNZ_pos _ h2 hq) cv
      generalize hn : dval (c :: d :: t) = n at *
      refine ⟨out ++ [n % 256], Ev.step ?_, ⟨by simp, by simp⟩, fun hmn => ?_, fun _ => by simp⟩
      · simp only [spec_l10Num.l0]
        exact Ev.neg (by omega) (Ev.pos (by omega) Ev.pure)
      · rw [hm, hz] at hmn; cases hmn
theorem and127b_all : ∀ c : Fin 256, Go.bits .and .u8 (c.val : Int) 127 = (c.val : Int) % 128 := by decide +kernel
theorem and127b (c : Int) (h0 : 0 ≤ c) (h1 : c < 256) : Go.bits .and .u8 c 127 = c % 128 := by
  have := and127b_all ⟨c.toNat, by omega⟩
  simpa [Int.toNat_of_nonneg h0] using this
theorem or_comm64 (a b : Int) : Go.bits .or .i64 a b = Go.bits .or .i64 b a := by
  show IntKind.i64.wrap _ = IntKind.i64.wrap _
  rw [BitVec.or_comm]
/-- The next seven bits, set above what is there. -/
theorem or_up (n x : Int) (s : Nat) (hs : s ≤ 21) (h0 : 0 ≤ n) (h1 : n < 2 ^ s) (h2 : 0 ≤ x) (h3 : x < 128) : Go.bits .or .i64 n (x * 2 ^ s) = n + x * 2 ^ s := by
  have hp : (2 : Int) ^ s ≤ 2 ^ 21 := by
    have := Nat.pow_le_pow_right (n := 2) (by omega) hs
    exact_mod_cast this
  rw [show (2 : Int) ^ 21 = 2097152 by decide] at hp
  have hp0 : (0 : Int) < 2 ^ s := by
    have := Nat.two_pow_pos s
    exact_mod_cast this
  have hx0 : 0 ≤ x * 2 ^ s := Int.mul_nonneg h2 (by omega)
  have hx1 : x * 2 ^ s ≤ 127 * 2 ^ s := Int.mul_le_mul_of_nonneg_right (by omega) (by omega)
  have h63 : (2 : Int) ^ 63 = 9223372036854775808 := by decide
  rw [or_comm64, bits_join .i64 63 (by decide) (fun n a b => i64w n (by omega) (by omega)) s (x * 2 ^ s) n hx0 (Int.mul_emod_left _ _) (by omega) h0 h1 (by omega)]
  omega
theorem shl_up (x : Int) (s : Nat) (hs : s ≤ 21) (h2 : 0 ≤ x) (h3 : x < 128) : shl .i64 x (s : Int) = x * 2 ^ s := by
  have hp : (2 : Int) ^ s ≤ 2 ^ 21 := by
    have := Nat.pow_le_pow_right (n := 2) (by omega) hs
    exact_mod_cast this
  rw [show (2 : Int) ^ 21 = 2097152 by decide] at hp
  have hp0 : (0 : Int) < 2 ^ s := by
    have := Nat.two_pow_pos s
    exact_mod_cast this
  have hx0 : 0 ≤ x * 2 ^ s := Int.mul_nonneg h2 (by omega)
  have hx1 : x * 2 ^ s ≤ 127 * 2 ^ s := Int.mul_le_mul_of_nonneg_right (by omega) (by omega)
  show IntKind.i64.wrap (x * 2 ^ min (s : Int).toNat 64) = _
  rw [Int.toNat_natCast, Nat.min_eq_left (by omega)]
  exact i64w _ (by omega) (by omega)
theorem rdAt (p t : List Int) (c : Int) : rd (p ++ c :: t) (p.length : Int) = c := by unfold rd; simp [List.getD_eq_getElem?_getD]
set_option maxHeartbeats 2000000 in
/-- Both sides read a number: the same digits, or both nothing. -/
theorem num_both (b : List Int) (hb : b.length ≤ 1048576) (hw : ∀ c ∈ b, 0 ≤ c ∧ c < 256) (f : Bool) : ∀ d : Nat, d ≤ 4 → ∀ (p t : List Int) (acc : Int), b = p ++ t → 0 ≤ acc → acc < 2 ^ (28 - 7 * d) →
    (∃ ds t', t = ds ++ t' ∧ Dig ds ∧ ds.length ≤ d ∧ Ev (fun k => spec_l10Read.l0 k acc ((28 - 7 * d : Nat) : Int) b (p.length : Int) f) (acc + dval ds * 2 ^ (28 - 7 * d), ((p ++ ds).length : Int), f) ∧
      Ev (fun k => rdNum k b (p.length : Int) acc ((28 - 7 * d : Nat) : Int)) (acc + dval ds * 2 ^ (28 - 7 * d), lastNZ ds || (((28 - 7 * d : Nat) : Int) == 0 && ds.length == 1), ((p ++ ds).length : Int))) ∨
    (∃ q t', b = q ++ t' ∧ Ev (fun k => spec_l10Read.l0 k acc ((28 - 7 * d : Nat) : Int) b (p.length : Int) f) (0, (q.length : Int), true) ∧ Ev (fun k => rdNum k b (p.length : Int) acc ((28 - 7 * d : Nat) : Int)) (0, false, (q.length : Int)))
  | 0, _, p, t, acc, he, h0, h1 => by
    refine .inr ⟨p, t, he, Ev.step ?_, Ev.step ?_⟩
    · simp only [spec_l10Read.l0]
      exact Ev.neg (by decide) Ev.pure
    · simp only [rdNum]
      by_cases c : (p.length : Int) < (b.length : Int)
      · exact Ev.pos c (Ev.neg (by decide) Ev.pure)
      · exact Ev.neg c Ev.pure
  | d + 1, hd, p, [], acc, he, h0, h1 => by
    have hl : b.length = p.length := by rw [he]; simp
    have hs : ((28 - 7 * (d + 1) : Nat) : Int) < 28 := by omega
    refine .inr ⟨p, [], he, Ev.step ?_, Ev.step ?_⟩
    · simp only [spec_l10Read.l0]
      exact Ev.pos hs (Ev.pos (by omega) Ev.pure)
    · simp only [rdNum]
      exact Ev.neg (by omega) Ev.pure
  | d + 1, hd, p, c :: t, acc, he, h0, h1 => by
    have hl : b.length = p.length + t.length + 1 := by rw [he]; simp; omega
    have hc := hw c (by rw [he]; simp)
    have hr : rd b (p.length : Int) = c := by rw [he]; exact rdAt p t c
    obtain ⟨s, hs⟩ : ∃ s, s = 28 - 7 * (d + 1) := ⟨_, rfl⟩
    have hs2 : d = 0 ∨ 28 - 7 * d = s + 7 := by omega
    have hshU : Unit → s + 7 ≤ 28 → ((28 - 7 * d : Nat) : Int) = wrap64 ((s : Int) + 7) := fun _ _ => by rw [w64 _ (by omega) (by omega)]; omega
    have hsh2U : Unit → s + 7 ≤ 28 → ((28 - 7 * d : Nat) : Int) = IntKind.u64.wrap ((s : Int) + 7) := fun _ _ => by rw [u64w _ (by omega) (by omega)]; omega
    rw [← hs] at h1 ⊢
    have hx : shl .i64 (wrap64 (Go.bits .and .u8 c 127)) (s : Int) = c % 128 * 2 ^ s := by
      rw [and127b c hc.1 hc.2, w64 _ (by omega) (by omega)]
      exact shl_up _ s (by omega) (by omega) (by omega)
    have hor : Go.bits .or .i64 acc (c % 128 * 2 ^ s) = acc + c % 128 * 2 ^ s := or_up acc _ s (by omega) h0 h1 (by omega) (by omega)
    have hp : (2 : Int) ^ s ≤ 2 ^ 21 := by
      have := Nat.pow_le_pow_right (n := 2) (by omega) (show s ≤ 21 by omega)
      exact_mod_cast this
    rw [show (2 : Int) ^ 21 = 2097152 by decide] at hp
    have hp0 : (0 : Int) < 2 ^ s := by
      have := Nat.two_pow_pos s
      exact_mod_cast this
    have hx0 : 0 ≤ c % 128 * 2 ^ s := Int.mul_nonneg (by omega) (by omega)
    have hx1 : c % 128 * 2 ^ s ≤ 127 * 2 ^ s := Int.mul_le_mul_of_nonneg_right (by omega) (by omega)
    have hsum : wrap64 (acc + c % 128 * 2 ^ s) = acc + c % 128 * 2 ^ s := w64 _ (by omega) (by omega)
    have hup : wrap64 ((p.length : Int) + 1) = ((p ++ [c]).length : Int) := by rw [List.length_append, List.length_singleton]; exact upN _ (by omega)
    by_cases c9 : c < 128
    · refine .inl ⟨[c], t, rfl, ⟨hc.1, c9⟩, by simp, Ev.step ?_, Ev.step ?_⟩
      · simp only [spec_l10Read.l0, hr, hx, hsum, hup]
        have e : dval [c] = c % 128 := by simp [dval]
        rw [e]
        exact Ev.pos (by omega) (Ev.neg (by omega) (Ev.pos (by omega) (Ev.pos (by omega) (Ev.pos (by omega) (Ev.pos c9 Ev.pure)))))
      · simp only [rdNum, hr, hx, hor, hup]
        have e : dval [c] = c % 128 := by simp [dval]
        have e2 : (lastNZ [c] || ((s : Int) == 0 && ([c] : List Int).length == 1)) = (!(c == 0) || (s : Int) == 0) := by simp [lastNZ]
        rw [e, e2]
        exact Ev.pos (by omega) (Ev.pos (by omega) (Ev.pos (by omega) (Ev.pos (by omega) (Ev.pos c9 Ev.pure))))
    · have hbound : acc + c % 128 * 2 ^ s < 2 ^ (28 - 7 * d) := by
        rw [show 28 - 7 * d = s + 7 by omega, Int.pow_add]
        rw [show (2 : Int) ^ 7 = 128 by decide]
        omega
      have h28 : s + 7 ≤ 28 := by omega
      have hsh := fun u : Unit => hshU u h28
      have hsh2 := fun u : Unit => hsh2U u h28
      rcases num_both b hb hw f d (by omega) (p ++ [c]) t (acc + c % 128 * 2 ^ s) (by rw [he]; simp) (by omega) hbound with ⟨ds, t', h2, h3, h4, h5, h6⟩ | ⟨q, t', h2, h5, h6⟩
      · obtain ⟨x, y, rfl⟩ : ∃ x y, ds = x :: y := by
          cases ds with
          | nil => exact h3.elim
          | cons x y => exact ⟨x, y, rfl⟩
        have ev : acc + dval (c :: x :: y) * 2 ^ s = acc + c % 128 * 2 ^ s + dval (x :: y) * 2 ^ (28 - 7 * d) := by
          rw [show 28 - 7 * d = s + 7 by omega, Int.pow_add, show dval (c :: x :: y) = c % 128 + 128 * dval (x :: y) from rfl, Int.add_mul, show (2 : Int) ^ 7 = 128 by decide]
          rw [Int.mul_comm (2 ^ s) 128, ← Int.mul_assoc, Int.mul_comm (dval (x :: y)) 128]
          omega
        have el : p ++ c :: x :: y = p ++ [c] ++ (x :: y) := by simp
        have hz : (((28 - 7 * d : Nat) : Int) == 0) = false := by simp; omega
        rw [hz, Bool.false_and, Bool.or_false] at h6
        refine .inl ⟨c :: x :: y, t', by rw [h2]; simp, ⟨by omega, hc.2, h3⟩, by simp at h4 ⊢; omega, Ev.step ?_, Ev.step ?_⟩
        · rw [ev, el]
          simp only [spec_l10Read.l0, hr, hx, hsum, hup, ← hsh2 ()]
          exact Ev.pos (by omega) (Ev.neg (by omega) (Ev.pos (by omega) (Ev.pos (by omega) (Ev.pos (by omega) (Ev.neg c9 h5)))))
        · have e2 : (lastNZ (c :: x :: y) || ((s : Int) == 0 && (c :: x :: y).length == 1)) = lastNZ (x :: y) := by
            have : ((c :: x :: y).length == 1) = false := by simp
            rw [this, Bool.and_false, Bool.or_false]; rfl
          rw [ev, el, e2]
          simp only [rdNum, hr, hx, hor, hup, ← hsh ()]
          exact Ev.pos (by omega) (Ev.pos (by omega) (Ev.pos (by omega) (Ev.pos (by omega) (Ev.neg c9 h6))))
      · refine .inr ⟨q, t', h2, Ev.step ?_, Ev.step ?_⟩
        · simp only [spec_l10Read.l0, hr, hx, hsum, hup, ← hsh2 ()]
          exact Ev.pos (by omega) (Ev.neg (by omega) (Ev.pos (by omega) (Ev.pos (by omega) (Ev.pos (by omega) (Ev.neg c9 h5)))))
        · simp only [rdNum, hr, hx, hor, hup, ← hsh ()]
          exact Ev.pos (by omega) (Ev.pos (by omega) (Ev.pos (by omega) (Ev.pos (by omega) (Ev.neg c9 h6))))
/-- A number at a place. -/
theorem read_both (b : List Int) (hb : b.length ≤ 1048576) (hw : ∀ c ∈ b, 0 ≤ c ∧ c < 256) (f : Bool) (p t : List Int) (he : b = p ++ t) :
    (∃ ds t', t = ds ++ t' ∧ Dig ds ∧ ds.length ≤ 4 ∧ Ev (fun k => spec_l10Read.f k b (p.length : Int) f) (dval ds, ((p ++ ds).length : Int), f) ∧ Ev (fun k => rdNum k b (p.length : Int) 0 0) (dval ds, mnD ds, ((p ++ ds).length : Int))) ∨
    (∃ q t', b = q ++ t' ∧ Ev (fun k => spec_l10Read.f k b (p.length : Int) f) (0, (q.length : Int), true) ∧ Ev (fun k => rdNum k b (p.length : Int) 0 0) (0, false, (q.length : Int))) := by
  unfold spec_l10Read.f
  have := num_both b hb hw f 4 (by omega) p t 0 he (by omega) (by decide)
  simpa [mnD] using this

-- ReadD
def okS (s : S62) : Prop := (s.f0 = 1 ∧ 1 ≤ s.f2 ∧ s.f2 ≤ 268435455 ∧ 0 ≤ s.f1 ∧ s.f1 ≤ 268435455 ∧ s.f3.length = 0) ∨ (s.f0 = 2 ∧ s.f1 = 0 ∧ s.f2 = 0 ∧ 0 < s.f3.length)
/-- One step's bytes are written behind out. -/
def RunS (s : S62) (out r : List Int) : Prop := okS s ∧ ∃ r1 : List Int, out.length + 1 ≤ r1.length ∧ r1.length ≤ r.length ∧
  ((s.f0 = 1 ∧ Ev (fun k => spec_l10Num.f k (out ++ [1]) s.f1) r1 ∧ Ev (fun k => spec_l10Num.f k r1 s.f2) r) ∨ (s.f0 = 2 ∧ Ev (fun k => spec_l10Num.f k (out ++ [2]) (s.f3.length : Int)) r1 ∧ r = r1 ++ s.f3))
def Run : List S62 → List Int → List Int → Prop
  | [], out, q => q = out
  | s :: t, out, q => ∃ r, RunS s out r ∧ Run t r q
theorem Run.app : ∀ {a b : List S62} {x y z : List Int}, Run a x y → Run b y z → Run (a ++ b) x z
  | [], _, _, _, _, h, h2 => by
    obtain rfl : _ = _ := h
    exact h2
  | _ :: _, _, _, _, _, ⟨r, h, h1⟩, h2 => ⟨r, h, Run.app h1 h2⟩
theorem Run.len : ∀ {t : List S62} {x y : List Int}, Run t x y → x.length ≤ y.length
  | [], _, _, h => by
    obtain rfl : _ = _ := h
    exact Nat.le_refl _
  | _ :: _, _, _, ⟨r, ⟨_, r1, h0, h1, _⟩, h2⟩ => by
    have := Run.len h2
    omega
theorem rdL (pre t : List S62) (s : S62) : rd_T62 (pre ++ s :: t) (pre.length : Int) = s := by unfold rd_T62; simp [List.getD_eq_getElem?_getD]
theorem upL (pre : List S62) (s : S62) (h : pre.length < 100000000) : wrap64 ((pre.length : Int) + 1) = ((pre ++ [s]).length : Int) := by
  rw [List.length_append, List.length_singleton]
  exact upN _ (by omega)
/-- What is written of the steps. -/
theorem run_db (ds : List S62) (hd : ds.length ≤ 10000) : ∀ (t pre : List S62) (out q : List Int), ds = pre ++ t → Run t out q → q.length ≤ 100000000000 → (∀ s ∈ ds, s.f3.length ≤ 1048576) → Ev (fun k => spec_DeltaBytes.l0 k ds out (pre.length : Int)) q
  | [], pre, out, q, he, hr, hq, hb => by
    obtain rfl : _ = _ := hr
    refine Ev.step ?_
    simp only [spec_DeltaBytes.l0]
    rw [he]
    exact Ev.neg (by simp) Ev.pure
  | s :: t, pre, out, q, he, ⟨r, ⟨hs, r1, l1, l2, hc⟩, hr⟩, hq, hb => by
    have hl := Run.len hr
    have hbs := hb s (by rw [he]; simp)
    have hlen : ds.length = pre.length + t.length + 1 := by rw [he]; simp; omega
    have ih := run_db ds hd t (pre ++ [s]) r q (by rw [he]; simp) hr hq hb
    obtain ⟨ts, es, is⟩ := specStep s.f0 s.f1 s.f2 s.f3
    have et : ts = true := is.2 hs
    subst et
    have hrd : rd_T62 ds (pre.length : Int) = s := by rw [he]; exact rdL pre t s
    have hup := upL pre s (by omega)
    refine Ev.step ?_
    simp only [spec_DeltaBytes.l0, hrd, hup]
    clear is
    rcases hc with ⟨h1, e1, e2⟩ | ⟨h1, e1, e2⟩
    · have hk : s.f0 % 256 = 1 := by omega
      rw [hk]
      exact Ev.pos (by omega) (Ev.pos (by omega) (Ev.cons es (Ev.pos rfl (Ev.pos (by omega) (Ev.cons rfl (Ev.pos h1 (Ev.bind e1 (Ev.bind e2 ih))))))))
    · have hk : s.f0 % 256 = 2 := by omega
      rw [hk]
      have hrl : r.length = r1.length + s.f3.length := by rw [e2]; simp
      rw [e2] at ih
      exact Ev.pos (by omega) (Ev.pos (by omega) (Ev.cons es (Ev.pos rfl (Ev.pos (by omega) (Ev.cons rfl (Ev.neg (by omega) (Ev.bind e1 (Ev.pos (by omega) ih))))))))
theorem num_spec (d : Nat) (hd : d ≤ 8) : ∀ (out : List Int) (n : Int), 0 ≤ n → n < 128 ^ d → out.length + d < 100000000000000 → ∃ r, Ev (fun k => spec_l10Num.l0 k out n) r ∧ out.length ≤ r.length ∧ r.length ≤ out.length + d + 1 := by
  induction d with
  | zero =>
    intro out n h0 h1 h2
    have hn : n < 128 := by simp at h1; omega
    refine ⟨out ++ [n % 256], Ev.step ?_, by simp, by simp⟩
    simp only [spec_l10Num.l0]
    exact Ev.neg (by omega) (Ev.pos (by omega) Ev.pure)
  | succ d ih =>
    intro out n h0 h1 h2
    by_cases c : n ≥ 128
    · have hp : (128 : Int) ^ (d + 1) = 128 ^ d * 128 := Int.pow_succ 128 d
      have hm : (128 : Int) ^ (d + 1) ≤ 128 ^ 8 := by
        have := Nat.pow_le_pow_right (n := 128) (by omega) hd
        exact_mod_cast this
      have hm2 : (128 : Int) ^ 8 = 72057594037927936 := by decide
      rw [hm2] at hm
      have hs : ∃ l : List Int, l = out ++ [n % 128 + 128] ∧ l.length = out.length + 1 := ⟨_, rfl, by simp⟩
      obtain ⟨l, hl, hll⟩ := hs
      obtain ⟨r, r1, r2, r3⟩ := ih (by omega) l (n / 128) (by omega) (by omega) (by omega)
      have e1 : Unit → (wrap64 ((Int.tmod n 128) + 128)) % 256 = n % 128 + 128 := fun _ => by
        rw [Int.tmod_eq_emod_of_nonneg h0, w64 _ (by omega) (by omega)]; omega
      have e2 : Unit → wrap64 (Int.tdiv n 128) = n / 128 := fun _ => by
        rw [Int.tdiv_eq_ediv_of_nonneg h0, w64 _ (by omega) (by omega)]
      refine ⟨r, Ev.step ?_, by omega, by omega⟩
      simp only [spec_l10Num.l0, e1 (), e2 (), ← hl]
      exact Ev.pos c (Ev.pos (by omega) r1)
    · refine ⟨out ++ [n % 256], Ev.step ?_, by simp, by rw [List.length_append, List.length_singleton]; omega⟩
      simp only [spec_l10Num.l0]
      exact Ev.neg (by omega) (Ev.pos (by omega) Ev.pure)
theorem num_ex (out : List Int) (n : Int) (h0 : 0 ≤ n) (h1 : n < 72057594037927936) (h2 : out.length + 8 < 100000000000000) : ∃ r, Ev (fun k => spec_l10Num.f k out n) r ∧ out.length ≤ r.length ∧ r.length ≤ out.length + 9 := by
  unfold spec_l10Num.f
  exact num_spec 8 (by omega) out n h0 (by rw [show (128 : Int) ^ 8 = 72057594037927936 by decide]; exact h1) h2
theorem runS_ex (s : S62) (h : okS s) (hb : s.f3.length ≤ 1048576) (out : List Int) (ho : out.length ≤ 100000000000) : ∃ r, RunS s out r ∧ r.length ≤ out.length + 1048600 := by
  have hl : ∀ x : Int, (out ++ [x]).length = out.length + 1 := fun x => by simp
  rcases h with ⟨k1, n1, n2, a0, a1, d0⟩ | ⟨k1, a0, n0, d0⟩
  · obtain ⟨r1, e1, l1, l2⟩ := num_ex (out ++ [1]) s.f1 a0 (by omega) (by rw [hl]; omega)
    obtain ⟨r, e2, l3, l4⟩ := num_ex r1 s.f2 (by omega) (by omega) (by rw [hl] at l2; omega)
    rw [hl] at l1 l2
    exact ⟨r, ⟨.inl ⟨k1, n1, n2, a0, a1, d0⟩, r1, l1, l3, .inl ⟨k1, e1, e2⟩⟩, by omega⟩
  · obtain ⟨r1, e1, l1, l2⟩ := num_ex (out ++ [2]) (s.f3.length : Int) (by omega) (by omega) (by rw [hl]; omega)
    rw [hl] at l1 l2
    exact ⟨r1 ++ s.f3, ⟨.inr ⟨k1, a0, n0, d0⟩, r1, l1, by simp, .inr ⟨k1, e1, rfl⟩⟩, by rw [List.length_append]; omega⟩
/-- A step that cannot be: nothing is written. -/
theorem bad_db (ds : List S62) (hd : ds.length ≤ 10000) (hb : ∀ s ∈ ds, s.f3.length ≤ 1048576) : ∀ (t pre : List S62) (out : List Int), ds = pre ++ t → (∃ s ∈ t, ¬ okS s) → out.length ≤ 4 + pre.length * 1048600 → Ev (fun k => spec_DeltaBytes.l0 k ds out (pre.length : Int)) []
  | [], _, _, _, ⟨_, hs, _⟩, _ => by cases hs
  | s :: t, pre, out, he, hx, ho => by
    have hbs := hb s (by rw [he]; simp)
    have hlen : ds.length = pre.length + t.length + 1 := by rw [he]; simp; omega
    obtain ⟨ts, es, is⟩ := specStep s.f0 s.f1 s.f2 s.f3
    have hrd : rd_T62 ds (pre.length : Int) = s := by rw [he]; exact rdL pre t s
    have hup := upL pre s (by omega)
    refine Ev.step ?_
    by_cases hs : okS s
    · have et : ts = true := is.2 hs
      subst et
      clear is
      obtain ⟨r, ⟨_, r1, l1, l2, hc⟩, l3⟩ := runS_ex s hs hbs out (by omega)
      have ih := bad_db ds hd hb t (pre ++ [s]) r (by rw [he]; simp) (by
        obtain ⟨x, hx1, hx2⟩ := hx
        rcases List.mem_cons.1 hx1 with rfl | hx1
        · exact absurd hs hx2
        · exact ⟨x, hx1, hx2⟩) (by rw [List.length_append, List.length_singleton]; omega)
      simp only [spec_DeltaBytes.l0, hrd, hup]
      rcases hc with ⟨h1, e1, e2⟩ | ⟨h1, e1, e2⟩
      · have hk : s.f0 % 256 = 1 := by omega
        rw [hk]
        exact Ev.pos (by omega) (Ev.pos (by omega) (Ev.cons es (Ev.pos rfl (Ev.pos (by omega) (Ev.cons rfl (Ev.pos h1 (Ev.bind e1 (Ev.bind e2 ih))))))))
      · have hk : s.f0 % 256 = 2 := by omega
        rw [hk]
        have hrl : r.length = r1.length + s.f3.length := by rw [e2]; simp
        rw [e2] at ih
        exact Ev.pos (by omega) (Ev.pos (by omega) (Ev.cons es (Ev.pos rfl (Ev.pos (by omega) (Ev.cons rfl (Ev.neg (by omega) (Ev.bind e1 (Ev.pos (by omega) ih))))))))
    · have et : ts = false := by
        cases ts
        · rfl
        · exact absurd (is.1 rfl) hs
      subst et
      simp only [spec_DeltaBytes.l0, hrd]
      exact Ev.pos (by omega) (Ev.pos (by omega) (Ev.cons es (Ev.neg (by simp) Ev.pure)))
/-- The steps' bytes are cs; are fewer; or a step cannot be. -/
def Good (ss : List S62) (cs : List Int) : Prop := ∀ out : List Int, out.length + cs.length ≤ 10000000 → Run ss out (out ++ cs)
def Less (ss : List S62) (cs : List Int) : Prop := ∀ out : List Int, out.length + cs.length ≤ 10000000 → ∃ r, Run ss out r ∧ r.length < out.length + cs.length
def Bad (ss : List S62) : Prop := ∃ s ∈ ss, ¬ okS s
theorem Good.app {a b : List S62} {x y : List Int} (h : Good a x) (h2 : Good b y) : Good (a ++ b) (x ++ y) := fun out ho => by
  rw [List.length_append] at ho
  have := (h out (by omega)).app (h2 (out ++ x) (by rw [List.length_append]; omega))
  rwa [List.append_assoc] at this
theorem Good.less {a b : List S62} {x y : List Int} (h : Good a x) (h2 : Less b y) : Less (a ++ b) (x ++ y) := fun out ho => by
  rw [List.length_append] at ho
  obtain ⟨r, hr, hl⟩ := h2 (out ++ x) (by rw [List.length_append]; omega)
  exact ⟨r, (h out (by omega)).app hr, by rw [List.length_append] at hl ⊢; omega⟩
theorem Less.good {a b : List S62} {x y : List Int} (h : Less a x) (h2 : Good b y ∨ Less b y) : Less (a ++ b) (x ++ y) := fun out ho => by
  rw [List.length_append] at ho
  obtain ⟨r, hr, hl⟩ := h out (by omega)
  rcases h2 with h2 | h2
  · exact ⟨r ++ y, hr.app (h2 r (by omega)), by rw [List.length_append, List.length_append]; omega⟩
  · obtain ⟨q, hq, hl2⟩ := h2 r (by omega)
    exact ⟨q, hr.app hq, by rw [List.length_append]; omega⟩

-- ReadE
theorem bytesL_str : ∀ (xs : List Int), (∀ c ∈ xs, 0 ≤ c ∧ c < 256) → bytesL (strOfNums xs) = xs := by
  intro xs h
  unfold bytesL
  rw [strOfNums_data, List.map_map]
  have : ∀ c ∈ xs, ((fun b : UInt8 => (b.toNat : Int)) ∘ fun n : Int => UInt8.ofNat n.toNat) c = c := fun c hc => by
    have := h c hc
    simp only [Function.comp_apply]
    rw [UInt8.toNat_ofNat_of_lt' (by show c.toNat < 256; omega)]
    omega
  rw [List.map_congr_left this, List.map_id']
section
variable (b : List Int) (hb : b.length ≤ 1048576) (hw : ∀ c ∈ b, 0 ≤ c ∧ c < 256)
/-- A reader that is bad: nothing more. -/
theorem spec_stop (o : List S62) (p : List Int) : Ev (fun k => spec_ReadDelta.l0 k b ([] : List S62) o b (p.length : Int) true) (([] : List S62), false) := by
  have fin : Ev (fun k => spec_ReadDelta.j2 k b ([] : List S62) o false b (p.length : Int) true) (([] : List S62), false) := by
    refine Ev.step ?_
    simp only [spec_ReadDelta.j2]
    exact Ev.neg (by simp) (Ev.pos trivial Ev.pure)
  refine Ev.step ?_
  simp only [spec_ReadDelta.l0, Bool.not_true]
  by_cases c : (p.length : Int) < (b.length : Int)
  · exact Ev.pos c fin
  · exact Ev.neg c fin
include hb hw
theorem read_bad (p t : List Int) (he : b = p ++ t) : ∃ n q t', b = q ++ t' ∧ Ev (fun k => spec_l10Read.f k b (p.length : Int) true) (n, (q.length : Int), true) := by
  rcases read_both b hb hw true p t he with ⟨ds, t', h1, _, _, h2, _⟩ | ⟨q, t', h1, h2, _⟩
  · exact ⟨_, p ++ ds, t', by rw [he, h1]; simp, h2⟩
  · exact ⟨_, q, t', h1, h2⟩
/-- A text: its number's digits, and the text; or nothing. -/
theorem text_both (p t : List Int) (he : b = p ++ t) :
    (∃ ds dt t', t = ds ++ (dt ++ t') ∧ Dig ds ∧ ds.length ≤ 4 ∧ (dt.length : Int) = dval ds ∧ Ev (fun k => spec_l10ReadText.f k b (p.length : Int) false) (strOfNums dt, ((p ++ ds ++ dt).length : Int), false) ∧ Ev (fun k => rdNum k b (p.length : Int) 0 0) (dval ds, mnD ds, ((p ++ ds).length : Int))) ∨
    (∃ q t', b = q ++ t' ∧ Ev (fun k => spec_l10ReadText.f k b (p.length : Int) false) ((⟨#[]⟩ : ByteArray), (q.length : Int), true) ∧ ∃ n ok, Ev (fun k => rdNum k b (p.length : Int) 0 0) (n, ok, (q.length : Int)) ∧ (ok = true → (b.length : Int) - q.length < n)) := by
  unfold spec_l10ReadText.f
  rcases read_both b hb hw false p t he with ⟨ds, t', h1, h2, h3, h4, h5⟩ | ⟨q, t', h1, h4, h5⟩
  · have hl : b.length = p.length + ds.length + t'.length := by rw [he, h1]; simp; omega
    have hv := dval_four ds h2 h3
    have hpl : (p ++ ds).length = p.length + ds.length := by simp
    have e1 : wrap64 ((b.length : Int) - ((p ++ ds).length : Int)) = (t'.length : Int) := by rw [w64 _ (by omega) (by omega)]; omega
    by_cases c : dval ds > (t'.length : Int)
    · refine .inr ⟨p ++ ds, t', by rw [he, h1]; simp, Ev.bind h4 ?_, _, _, h5, fun _ => by omega⟩
      simp only [e1]
      exact Ev.neg (by simp) (Ev.pos c Ev.pure)
    · obtain ⟨dt, t2, rfl, hd⟩ : ∃ dt t2, t' = dt ++ t2 ∧ (dt.length : Int) = dval ds := ⟨t'.take (dval ds).toNat, t'.drop (dval ds).toNat, (List.take_append_drop _ _).symm, by rw [List.length_take]; omega⟩
      refine .inl ⟨ds, dt, t2, h1, h2, h3, hd, Ev.bind h4 ?_, h5⟩
      have e2 : wrap64 (((p ++ ds).length : Int) + dval ds) = ((p ++ ds ++ dt).length : Int) := by
        rw [@List.length_append _ (p ++ ds), w64 _ (by omega) (by omega)]; omega
      have e3 : wrap64 (((p ++ ds ++ dt).length : Int) - dval ds) = ((p ++ ds).length : Int) := by
        rw [@List.length_append _ (p ++ ds), w64 _ (by omega) (by omega)]; omega
      have hll : (p ++ ds ++ dt).length = p.length + ds.length + dt.length := by simp; omega
      have e4 : (b.take (p ++ ds ++ dt).length).drop (p ++ ds).length = dt := by
        rw [he, h1, ← List.append_assoc, ← List.append_assoc, List.take_left' rfl, List.drop_left' rfl]
      simp only [e1, e2, e3, Int.toNat_natCast, e4]
      exact Ev.neg (by simp) (Ev.neg c (Ev.pos (by omega) (Ev.pos (by omega) (Ev.pos (by rw [List.length_append] at hl; omega) Ev.pure))))
  · exact .inr ⟨q, t', h1, Ev.bind h4 (Ev.pos rfl Ev.pure), _, _, h5, fun h => by cases h⟩
end

-- ReadF
theorem place_of {b : List Int} {i n p : Int} {ok : Bool} (h : Ev (fun k => rdNum k b i 0 0) (n, ok, p)) : Ev (fun k => rd_place k b i) p := by
  unfold rd_place
  exact Ev.bind h Ev.pure
theorem value_of {b : List Int} {i n p : Int} {ok : Bool} (h : Ev (fun k => rdNum k b i 0 0) (n, ok, p)) : Ev (fun k => rd_value k b i) (n, ok) := by
  unfold rd_value
  exact Ev.bind h Ev.pure
section
variable (b : List Int) (hb : b.length ≤ 1048576) (hw : ∀ c ∈ b, 0 ≤ c ∧ c < 256)
/-- The spec's run at a place, and the code's. -/
def SR (o : List S62) (i : Int) (r : List S62 × Bool) : Prop := Ev (fun k => spec_ReadDelta.l0 k b ([] : List S62) o b i false) r
def IR (o : List S62) (i : Int) (r : List S62 × Bool) : Prop := Ev (fun k => impl_ReadDelta.l0 k b i o) r
include hb hw
omit hb hw in
theorem SR_in (o : List S62) (p t : List Int) (c : Int) (he : b = p ++ c :: t) (r : List S62 × Bool) (h : Ev (fun k => spec_ReadDelta.j2 k b ([] : List S62) o true b (p.length : Int) false) r) : SR b o (p.length : Int) r := by
  have hl : b.length = p.length + t.length + 1 := by rw [he]; simp; omega
  refine Ev.step ?_
  simp only [spec_ReadDelta.l0, Bool.not_false]
  exact Ev.pos (by omega) h
omit hb hw in
theorem j1_fail (i v1 v2 : Int) (o : List S62) : Ev (fun k => impl_ReadDelta.j1 k b i o v1 v2 true) (([] : List S62), false) := by
  refine Ev.step ?_
  simp only [impl_ReadDelta.j1]
  exact Ev.pos trivial Ev.pure
omit hb hw in
theorem j2_fail (i v : Int) (o : List S62) : Ev (fun k => impl_ReadDelta.j2 k b i o v true) (([] : List S62), false) := by
  refine Ev.step ?_
  simp only [impl_ReadDelta.j2]
  exact Ev.pos trivial Ev.pure
/-- A copying step. -/
theorem step_copy (o : List S62) (ho : o.length ≤ 10000) (p t : List Int) (he : b = p ++ 1 :: t) :
    (SR b o (p.length : Int) ([], false) ∧ IR b o (p.length : Int) ([], false)) ∨
    ∃ s cs t2, (1 : Int) :: t = cs ++ t2 ∧ 0 < cs.length ∧ s.f3.length ≤ 1048576 ∧ o.length + 1 ≤ 10000 ∧ (∀ r, SR b (o ++ [s]) ((p ++ cs).length : Int) r → SR b o (p.length : Int) r) ∧
      ((Good [s] cs ∧ ∀ r, IR b (o ++ [s]) ((p ++ cs).length : Int) r → IR b o (p.length : Int) r) ∨ ((Less [s] cs ∨ Bad [s]) ∧ IR b o (p.length : Int) ([], false))) := by
  have hl : b.length = p.length + t.length + 1 := by rw [he]; simp; omega
  have hr : rd b (p.length : Int) = 1 := by rw [he]; exact rdAt p t 1
  have he1 : b = (p ++ [1]) ++ t := by rw [he]; simp
  have hup : wrap64 ((p.length : Int) + 1) = ((p ++ [(1 : Int)]).length : Int) := by rw [List.length_append, List.length_singleton]; exact upN _ (by omega)
  have hw1 : wrap64 1 = 1 := w64 1 (by decide) (by decide)
  have hol : ∀ s : S62, (o ++ [s]).length = o.length + 1 := fun s => by simp
  have spc : ∀ (r : List S62 × Bool), Ev (fun k => (spec_l10Read.f k b ((p ++ [(1 : Int)]).length : Int) false).bind fun bt173 => ((spec_l10Read.f k b bt173.2.1 bt173.2.2).bind fun bt176 => (if o.length < 2932031007402 then ((some (o ++ [(⟨1, bt173.1, bt176.1, ([] : List Int)⟩ : S62)] : List (S62))).bind fun y179 => (if (y179.length : Int) > 10000 then (some (([] : List S62), false)) else (spec_ReadDelta.l0 k b ([] : List S62) y179 b bt176.2.1 bt176.2.2))) else (none)))) r → SR b o (p.length : Int) r := by
    intro r h
    refine SR_in b o p t 1 he r (Ev.step ?_)
    simp only [spec_ReadDelta.j2, hr, hup, hw1]
    exact Ev.pos trivial (Ev.pos (by omega) (Ev.pos (by omega) (Ev.pos trivial h)))
  have imp : ∀ (r : List S62 × Bool) (v1 q1 v2 q2 : Int) (k1 k2 : Bool), Ev (fun k => rdNum k b ((p ++ [(1 : Int)]).length : Int) 0 0) (v1, k1, q1) → Ev (fun k => rdNum k b q1 0 0) (v2, k2, q2) →
      Ev (fun k => (if k1 = true then (if k2 = true then (impl_ReadDelta.j1 k b q2 o v1 v2 (v2 == 0)) else (impl_ReadDelta.j1 k b q2 o v1 v2 true)) else (impl_ReadDelta.j1 k b q2 o v1 v2 true))) r → IR b o (p.length : Int) r := by
    intro r v1 q1 v2 q2 k1 k2 r1 r2 h
    refine Ev.step ?_
    simp only [impl_ReadDelta.l0, hr, hup]
    exact Ev.pos (by omega) (Ev.pos (by omega) (Ev.pos trivial (Ev.bind (place_of r1) (Ev.bind (value_of r1) (Ev.bind (place_of r2) (Ev.bind (value_of r2) h))))))
  have bad : ∀ (v1 v2 : Int) (q t' : List Int), b = q ++ t' → Ev (fun k => (if o.length < 2932031007402 then ((some (o ++ [(⟨1, v1, v2, ([] : List Int)⟩ : S62)] : List (S62))).bind fun y179 => (if (y179.length : Int) > 10000 then (some (([] : List S62), false)) else (spec_ReadDelta.l0 k b ([] : List S62) y179 b (q.length : Int) true))) else (none))) (([] : List S62), false) := by
    intro v1 v2 q t' hq
    refine Ev.pos (by omega) (Ev.cons rfl ?_)
    by_cases c : ((o ++ [(⟨1, v1, v2, ([] : List Int)⟩ : S62)]).length : Int) > 10000
    · exact Ev.pos c Ev.pure
    · exact Ev.neg c (spec_stop b _ q)
  rcases read_both b hb hw false (p ++ [1]) t he1 with ⟨ds1, t1, h1, g1, l1, s1, i1⟩ | ⟨q, t', h1, s1, i1⟩
  · have he2 : b = (p ++ [1] ++ ds1) ++ t1 := by rw [he1, h1]; simp
    rcases read_both b hb hw false (p ++ [1] ++ ds1) t1 he2 with ⟨ds2, t2, h2, g2, l2, s2, i2⟩ | ⟨q, t', h2, s2, i2⟩
    · have v1 := dval_four ds1 g1 l1
      have v2 := dval_four ds2 g2 l2
      by_cases cO : o.length + 1 > 10000
      · refine .inl ⟨spc _ (Ev.bind s1 (Ev.bind s2 (Ev.pos (by omega) (Ev.cons rfl (Ev.pos (by rw [hol]; omega) Ev.pure))))), imp _ _ _ _ _ _ _ i1 i2 ?_⟩
        have fin : ∀ z : Bool, Ev (fun k => impl_ReadDelta.j1 k b ((p ++ [1] ++ ds1 ++ ds2).length : Int) o (dval ds1) (dval ds2) z) (([] : List S62), false) := by
          intro z
          cases z
          · refine Ev.step ?_
            simp only [impl_ReadDelta.j1]
            exact Ev.neg (by simp) (Ev.pos (by omega) (Ev.cons rfl (Ev.pos (by rw [hol]; omega) Ev.pure)))
          · exact j1_fail b _ _ _ _
        by_cases a : mnD ds1 = true
        · refine Ev.pos a ?_
          by_cases a2 : mnD ds2 = true
          · exact Ev.pos a2 (fin _)
          · exact Ev.neg a2 (fin _)
        · exact Ev.neg a (fin _)
      · refine .inr ⟨⟨1, dval ds1, dval ds2, []⟩, 1 :: (ds1 ++ ds2), t2, by rw [h1, h2]; simp, by simp, by simp, by omega, fun r hS => ?_, ?_⟩
        · have e : p ++ 1 :: (ds1 ++ ds2) = p ++ [1] ++ ds1 ++ ds2 := by simp
          rw [e] at hS
          exact spc _ (Ev.bind s1 (Ev.bind s2 (Ev.pos (by omega) (Ev.cons rfl (Ev.neg (by rw [hol]; omega) hS)))))
        · have okay : dval ds2 ≠ 0 → okS ⟨1, dval ds1, dval ds2, []⟩ := fun h0 => .inl ⟨rfl, by show 1 ≤ dval ds2; omega, by show dval ds2 ≤ 268435455; omega, by show 0 ≤ dval ds1; omega, by show dval ds1 ≤ 268435455; omega, rfl⟩
          have nf : ∀ out : List Int, Ev (fun k => spec_l10Num.l0 k out (dval ds1)) = Ev (fun k => spec_l10Num.f k out (dval ds1)) := fun out => rfl
          by_cases hz : dval ds2 = 0
          · refine .inr ⟨.inr ⟨_, List.mem_singleton.2 rfl, fun hk => ?_⟩, imp _ _ _ _ _ _ _ i1 i2 ?_⟩
            · rcases hk with ⟨_, h, _⟩ | ⟨h, _⟩
              · have h : 1 ≤ dval ds2 := h
                omega
              · exact absurd h (by show ¬ (1 : Int) = 2; decide)
            · have hzb : (dval ds2 == 0) = true := by simp [hz]
              rw [hzb]
              by_cases a : mnD ds1 = true
              · refine Ev.pos a ?_
                by_cases a2 : mnD ds2 = true
                · exact Ev.pos a2 (j1_fail b _ _ _ _)
                · exact Ev.neg a2 (j1_fail b _ _ _ _)
              · exact Ev.neg a (j1_fail b _ _ _ _)
          · have okk := okay hz
            have hzb : (dval ds2 == 0) = false := by simp [hz]
            by_cases a : mnD ds1 = true ∧ mnD ds2 = true
            · refine .inl ⟨fun out hout => ?_, fun r hI => ?_⟩
              · have hcl : (1 :: (ds1 ++ ds2)).length = 1 + ds1.length + ds2.length := by simp; omega
                have ho1 : (out ++ [(1 : Int)]).length = out.length + 1 := by simp
                obtain ⟨r1, e1, _, e2, _⟩ := enc_dig ds1 g1 l1 (out ++ [1]) (by omega)
                have e2 := e2 a.1
                subst e2
                obtain ⟨r2, e3, _, e4, _⟩ := enc_dig ds2 g2 l2 (out ++ [1] ++ ds1) (by rw [List.length_append]; omega)
                have e4 := e4 a.2
                subst e4
                exact ⟨_, ⟨okk, out ++ [1] ++ ds1, by simp, by simp, .inl ⟨rfl, e1, e3⟩⟩, by simp [Run]⟩
              · have e : p ++ 1 :: (ds1 ++ ds2) = p ++ [1] ++ ds1 ++ ds2 := by simp
                rw [e] at hI
                refine imp _ _ _ _ _ _ _ i1 i2 (Ev.pos a.1 (Ev.pos a.2 ?_))
                rw [hzb]
                refine Ev.step ?_
                simp only [impl_ReadDelta.j1]
                exact Ev.neg (by simp) (Ev.pos (by omega) (Ev.cons rfl (Ev.neg (by rw [hol]; omega) hI)))
            · refine .inr ⟨.inl fun out hout => ?_, imp _ _ _ _ _ _ _ i1 i2 ?_⟩
              · have hcl : (1 :: (ds1 ++ ds2)).length = 1 + ds1.length + ds2.length := by simp; omega
                have ho1 : (out ++ [(1 : Int)]).length = out.length + 1 := by simp
                obtain ⟨r1, e1, e1l, _, e2⟩ := enc_dig ds1 g1 l1 (out ++ [1]) (by omega)
                obtain ⟨r2, e3, e3l, _, e4⟩ := enc_dig ds2 g2 l2 r1 (by omega)
                refine ⟨r2, ⟨r2, ⟨okk, r1, by omega, by omega, .inl ⟨rfl, e1, e3⟩⟩, rfl⟩, ?_⟩
                by_cases a1 : mnD ds1 = true
                · have := e4 (by cases hq : mnD ds2
                                 · rfl
                                 · exact absurd ⟨a1, hq⟩ a)
                  omega
                · have := e2 (by cases hq : mnD ds1
                                 · rfl
                                 · exact absurd hq a1)
                  omega
              · by_cases a1 : mnD ds1 = true
                · exact Ev.pos a1 (Ev.neg (fun a2 => a ⟨a1, a2⟩) (j1_fail b _ _ _ _))
                · exact Ev.neg a1 (j1_fail b _ _ _ _)
    · refine .inl ⟨spc _ (Ev.bind s1 (Ev.bind s2 (bad _ _ q t' h2))), imp _ _ _ _ _ _ _ i1 i2 ?_⟩
      by_cases a : mnD ds1 = true
      · exact Ev.pos a (Ev.neg (by simp) (j1_fail b _ _ _ _))
      · exact Ev.neg a (j1_fail b _ _ _ _)
  · obtain ⟨n, q2, t2, h2, s2⟩ := read_bad b hb hw q t' h1
    obtain ⟨v2, k2, q3, i2⟩ : ∃ v2 k2 q3, Ev (fun k => rdNum k b (q.length : Int) 0 0) (v2, k2, q3) := by
      rcases read_both b hb hw false q t' h1 with ⟨_, _, _, _, _, _, h⟩ | ⟨_, _, _, _, h⟩
      · exact ⟨_, _, _, h⟩
      · exact ⟨_, _, _, h⟩
    exact .inl ⟨spc _ (Ev.bind s1 (Ev.bind s2 (bad _ _ q2 t2 h2))), imp _ _ _ _ _ _ _ i1 i2 (Ev.neg (by simp) (j1_fail b _ _ _ _))⟩
/-- A step of another kind: its text. -/
theorem step_text (o : List S62) (ho : o.length ≤ 10000) (p t : List Int) (c : Int) (hc1 : c ≠ 1) (he : b = p ++ c :: t) :
    (SR b o (p.length : Int) ([], false) ∧ IR b o (p.length : Int) ([], false)) ∨
    ∃ s cs t2, c :: t = cs ++ t2 ∧ 0 < cs.length ∧ s.f3.length ≤ 1048576 ∧ o.length + 1 ≤ 10000 ∧ (∀ r, SR b (o ++ [s]) ((p ++ cs).length : Int) r → SR b o (p.length : Int) r) ∧
      ((Good [s] cs ∧ ∀ r, IR b (o ++ [s]) ((p ++ cs).length : Int) r → IR b o (p.length : Int) r) ∨ ((Less [s] cs ∨ Bad [s]) ∧ IR b o (p.length : Int) ([], false))) := by
  have hl : b.length = p.length + t.length + 1 := by rw [he]; simp; omega
  have hr : rd b (p.length : Int) = c := by rw [he]; exact rdAt p t c
  have hcw := hw c (by rw [he]; simp)
  have he1 : b = (p ++ [c]) ++ t := by rw [he]; simp
  have hup : wrap64 ((p.length : Int) + 1) = ((p ++ [c]).length : Int) := by rw [List.length_append, List.length_singleton]; exact upN _ (by omega)
  have hw1 : wrap64 c = c := w64 c (by omega) (by omega)
  have hol : ∀ s : S62, (o ++ [s]).length = o.length + 1 := fun s => by simp
  have spc : ∀ (r : List S62 × Bool), Ev (fun k => (spec_l10ReadText.f k b ((p ++ [c]).length : Int) false).bind fun bt182 => (if o.length < 2932031007402 then ((some (o ++ [(⟨c, 0, 0, (bytesL bt182.1)⟩ : S62)] : List (S62))).bind fun y188 => (if (y188.length : Int) > 10000 then (some (([] : List S62), false)) else (spec_ReadDelta.l0 k b ([] : List S62) y188 b bt182.2.1 bt182.2.2))) else (none))) r → SR b o (p.length : Int) r := by
    intro r h
    refine SR_in b o p t c he r (Ev.step ?_)
    simp only [spec_ReadDelta.j2, hr, hup, hw1]
    exact Ev.pos trivial (Ev.pos (by omega) (Ev.pos (by omega) (Ev.neg hc1 h)))
  have other : c ≠ 2 → IR b o (p.length : Int) ([], false) := by
    intro h2
    refine Ev.step ?_
    simp only [impl_ReadDelta.l0, hr, hup]
    exact Ev.pos (by omega) (Ev.pos (by omega) (Ev.neg hc1 (Ev.neg h2 Ev.pure)))
  have imp : c = 2 → ∀ (r : List S62 × Bool) (v q : Int) (ok : Bool), Ev (fun k => rdNum k b ((p ++ [c]).length : Int) 0 0) (v, ok, q) →
      Ev (fun k => (if ok = true then (if v = 0 then (impl_ReadDelta.j2 k b q o v true) else (impl_ReadDelta.j2 k b q o v (decide (v > (wrap64 ((b.length : Int) - q)))))) else (impl_ReadDelta.j2 k b q o v true))) r → IR b o (p.length : Int) r := by
    intro h2 r v q ok r1 h
    refine Ev.step ?_
    simp only [impl_ReadDelta.l0, hr, hup]
    exact Ev.pos (by omega) (Ev.pos (by omega) (Ev.neg hc1 (Ev.pos h2 (Ev.bind (place_of r1) (Ev.bind (value_of r1) h)))))
  rcases text_both b hb hw (p ++ [c]) t he1 with ⟨ds, dt, t', h1, g1, l1, hd, s1, i1⟩ | ⟨q, t', h1, s1, n, ok, i1, hn⟩
  · have hbt : bytesL (strOfNums dt) = dt := bytesL_str dt (fun x hx => hw x (by rw [he1, h1]; simp [hx]))
    have v1 := dval_four ds g1 l1
    have htl : t.length = ds.length + dt.length + t'.length := by rw [h1]; simp; omega
    have hpl : (p ++ [c] ++ ds).length = p.length + 1 + ds.length := by simp; omega
    have e1 : wrap64 ((b.length : Int) - ((p ++ [c] ++ ds).length : Int)) = ((dt.length + t'.length : Nat) : Int) := by rw [w64 _ (by omega) (by omega)]; omega
    have gt : decide (dval ds > wrap64 ((b.length : Int) - ((p ++ [c] ++ ds).length : Int))) = false := by rw [e1]; exact decide_eq_false (by omega)
    by_cases cO : o.length + 1 > 10000
    · have hS : SR b o (p.length : Int) ([], false) := spc _ (Ev.bind s1 (Ev.pos (by omega) (Ev.cons rfl (Ev.pos (by rw [hol]; omega) Ev.pure))))
      refine .inl ⟨hS, ?_⟩
      by_cases h2 : c = 2
      · refine imp h2 _ _ _ _ i1 ?_
        by_cases a : mnD ds = true
        · refine Ev.pos a ?_
          by_cases z : dval ds = 0
          · exact Ev.pos z (j2_fail b _ _ _)
          · refine Ev.neg z ?_
            rw [gt]
            have e2 : wrap64 (((p ++ [c] ++ ds).length : Int) + dval ds) = ((p ++ [c] ++ ds ++ dt).length : Int) := by
              rw [@List.length_append _ (p ++ [c] ++ ds), w64 _ (by omega) (by omega)]; omega
            have hll : (p ++ [c] ++ ds ++ dt).length = p.length + 1 + ds.length + dt.length := by rw [@List.length_append _ (p ++ [c] ++ ds)]; omega
            refine Ev.step ?_
            simp only [impl_ReadDelta.j2, e2]
            exact Ev.neg (by simp) (Ev.cons rfl (Ev.pos (by omega) (Ev.pos (by omega) (Ev.pos (by omega) (Ev.pos (by simp; omega) (Ev.pos (by omega) (Ev.cons rfl (Ev.pos (by rw [hol]; omega) Ev.pure))))))))
        · exact Ev.neg a (j2_fail b _ _ _)
      · exact other h2
    · refine .inr ⟨⟨c, 0, 0, dt⟩, c :: (ds ++ dt), t', by rw [h1]; simp, by simp, by show dt.length ≤ 1048576; omega, by omega, fun r hS => ?_, ?_⟩
      · have e : p ++ c :: (ds ++ dt) = p ++ [c] ++ ds ++ dt := by simp
        rw [e] at hS
        refine spc _ (Ev.bind s1 ?_)
        simp only [hbt]
        exact Ev.pos (by omega) (Ev.cons rfl (Ev.neg (by rw [hol]; omega) hS))
      · by_cases h2 : c = 2
        · by_cases z : dval ds = 0
          · refine .inr ⟨.inr ⟨_, List.mem_singleton.2 rfl, fun hk => ?_⟩, imp h2 _ _ _ _ i1 ?_⟩
            · rcases hk with ⟨h, _⟩ | ⟨_, _, _, h⟩
              · exact hc1 h
              · have h : 0 < dt.length := h
                omega
            · by_cases a : mnD ds = true
              · exact Ev.pos a (Ev.pos z (j2_fail b _ _ _))
              · exact Ev.neg a (j2_fail b _ _ _)
          · have okk : okS ⟨c, 0, 0, dt⟩ := .inr ⟨h2, rfl, rfl, by show 0 < dt.length; omega⟩
            have ho1 : ∀ out : List Int, (out ++ [(2 : Int)]).length = out.length + 1 := fun out => by simp
            have hcl : (c :: (ds ++ dt)).length = 1 + ds.length + dt.length := by simp; omega
            by_cases a : mnD ds = true
            · refine .inl ⟨fun out hout => ?_, fun r hI => ?_⟩
              · obtain ⟨r1, e1, _, e2, _⟩ := enc_dig ds g1 l1 (out ++ [2]) (by rw [ho1]; omega)
                have e2 := e2 a
                subst e2
                rw [← hd] at e1
                refine ⟨_, ⟨okk, out ++ [2] ++ ds, by simp, ?_, .inr ⟨h2, e1, rfl⟩⟩, ?_⟩
                · show (out ++ [2] ++ ds).length ≤ (out ++ [2] ++ ds ++ dt).length
                  rw [@List.length_append _ (out ++ [2] ++ ds)]; omega
                · show out ++ c :: (ds ++ dt) = out ++ [2] ++ ds ++ dt
                  rw [h2]; simp
              · have e : p ++ c :: (ds ++ dt) = p ++ [c] ++ ds ++ dt := by simp
                rw [e] at hI
                refine imp h2 _ _ _ _ i1 (Ev.pos a (Ev.neg z ?_))
                rw [gt]
                have e2 : wrap64 (((p ++ [c] ++ ds).length : Int) + dval ds) = ((p ++ [c] ++ ds ++ dt).length : Int) := by
                  rw [@List.length_append _ (p ++ [c] ++ ds), w64 _ (by omega) (by omega)]; omega
                have hll : (p ++ [c] ++ ds ++ dt).length = p.length + 1 + ds.length + dt.length := by rw [@List.length_append _ (p ++ [c] ++ ds)]; omega
                have e4 : (b.take (p ++ [c] ++ ds ++ dt).length).drop (p ++ [c] ++ ds).length = dt := by
                  rw [he1, h1, ← List.append_assoc, ← List.append_assoc, List.take_left' rfl, List.drop_left' rfl]
                refine Ev.step ?_
                simp only [impl_ReadDelta.j2, e2, Int.toNat_natCast, e4]
                rw [h2] at hI
                exact Ev.neg (by simp) (Ev.cons rfl (Ev.pos (by omega) (Ev.pos (by omega) (Ev.pos (by omega) (Ev.pos (by simp; omega) (Ev.pos (by omega) (Ev.cons rfl (Ev.neg (by rw [hol]; omega) (by unfold IR at hI; simpa [h2] using hI)))))))))
            · refine .inr ⟨.inl fun out hout => ?_, imp h2 _ _ _ _ i1 (Ev.neg a (j2_fail b _ _ _))⟩
              obtain ⟨r1, e1, e1l, _, e2⟩ := enc_dig ds g1 l1 (out ++ [2]) (by rw [ho1]; omega)
              have e2 := e2 (by cases hq : mnD ds
                                · rfl
                                · exact absurd hq a)
              rw [← hd] at e1
              rw [ho1] at e1l e2
              exact ⟨r1 ++ dt, ⟨_, ⟨okk, r1, by omega, by simp, .inr ⟨h2, e1, rfl⟩⟩, rfl⟩, by rw [List.length_append]; omega⟩
        · exact .inr ⟨.inr ⟨_, List.mem_singleton.2 rfl, fun hk => by
            rcases hk with ⟨h, _⟩ | ⟨h, _⟩
            · exact hc1 h
            · exact h2 h⟩, other h2⟩
  · refine .inl ⟨spc _ (Ev.bind s1 (Ev.pos (by omega) (Ev.cons rfl ?_))), ?_⟩
    · by_cases cc : ((o ++ [(⟨c, 0, 0, bytesL (⟨#[]⟩ : ByteArray)⟩ : S62)]).length : Int) > 10000
      · exact Ev.pos cc Ev.pure
      · exact Ev.neg cc (spec_stop b _ q)
    · by_cases h2 : c = 2
      · refine imp h2 _ _ _ _ i1 ?_
        cases ok
        · exact Ev.neg (by simp) (j2_fail b _ _ _)
        · have hq : b.length = q.length + t'.length := by rw [h1]; simp
          have gt : decide (n > wrap64 ((b.length : Int) - (q.length : Int))) = true := by
            rw [w64 _ (by omega) (by omega)]
            exact decide_eq_true (hn rfl)
          rw [gt]
          by_cases z : n = 0
          · exact Ev.pos rfl (Ev.pos z (j2_fail b _ _ _))
          · exact Ev.pos rfl (Ev.neg z (j2_fail b _ _ _))
      · exact other h2
/-- One step on both sides. -/
theorem step_both (o : List S62) (ho : o.length ≤ 10000) (p t : List Int) (c : Int) (he : b = p ++ c :: t) :
    (SR b o (p.length : Int) ([], false) ∧ IR b o (p.length : Int) ([], false)) ∨
    ∃ s cs t2, c :: t = cs ++ t2 ∧ 0 < cs.length ∧ s.f3.length ≤ 1048576 ∧ o.length + 1 ≤ 10000 ∧ (∀ r, SR b (o ++ [s]) ((p ++ cs).length : Int) r → SR b o (p.length : Int) r) ∧
      ((Good [s] cs ∧ ∀ r, IR b (o ++ [s]) ((p ++ cs).length : Int) r → IR b o (p.length : Int) r) ∨ ((Less [s] cs ∨ Bad [s]) ∧ IR b o (p.length : Int) ([], false))) := by
  by_cases h : c = 1
  · subst h
    exact step_copy b hb hw o ho p t he
  · exact step_text b hb hw o ho p t c h he
end

-- ReadG
theorem Good.nil : Good [] [] := fun out _ => by
  show out ++ [] = out
  simp
theorem Bad.app {a b : List S62} (h : Bad a ∨ Bad b) : Bad (a ++ b) := by
  rcases h with ⟨s, h1, h2⟩ | ⟨s, h1, h2⟩
  · exact ⟨s, List.mem_append_left _ h1, h2⟩
  · exact ⟨s, List.mem_append_right _ h1, h2⟩
section
variable (b : List Int) (hb : b.length ≤ 1048576) (hw : ∀ c ∈ b, 0 ≤ c ∧ c < 256)
include hb hw
theorem spec_main (n : Nat) : ∀ (p t : List Int) (o : List S62), t.length ≤ n → b = p ++ t → o.length ≤ 10000 →
    SR b o (p.length : Int) ([], false) ∨ ∃ new, (o ++ new).length ≤ 10000 ∧ (∀ s ∈ new, s.f3.length ≤ 1048576) ∧ (Good new t ∨ Less new t ∨ Bad new) ∧ ∀ r, SR b (o ++ new) (b.length : Int) r → SR b o (p.length : Int) r := by
  induction n with
  | zero =>
    intro p t o ht he ho
    obtain rfl : t = [] := List.length_eq_zero_iff.1 (by omega)
    exact .inr ⟨[], by simpa using ho, by simp, .inl Good.nil, fun r h => by rw [he] at h ⊢; simpa using h⟩
  | succ n ih =>
    intro p t o ht he ho
    cases t with
    | nil => exact .inr ⟨[], by simpa using ho, by simp, .inl Good.nil, fun r h => by rw [he] at h ⊢; simpa using h⟩
    | cons c t =>
      rcases step_both b hb hw o ho p t c he with ⟨h, _⟩ | ⟨s, cs, t2, h1, h2, h3, h4, h5, h6⟩
      · exact .inl h
      · have hlen : (c :: t).length = cs.length + t2.length := by rw [h1]; simp
        rcases ih (p ++ cs) t2 (o ++ [s]) (by omega) (by rw [he, h1]; simp) (by simp; omega) with g | ⟨new, g1, g2, g3, g4⟩
        · exact .inl (h5 _ g)
        · rw [List.append_assoc, List.singleton_append] at g1
          refine .inr ⟨s :: new, g1, fun x hx => ?_, ?_, fun r hr => h5 r (g4 r (by rw [List.append_assoc, List.singleton_append]; exact hr))⟩
          · rcases List.mem_cons.1 hx with rfl | hx
            · exact h3
            · exact g2 x hx
          · rw [h1, show s :: new = [s] ++ new from rfl]
            rcases g3 with g3 | g3 | g3
            · rcases h6 with ⟨h6, _⟩ | ⟨h6 | h6, _⟩
              · exact .inl (h6.app g3)
              · exact .inr (.inl (h6.good (.inl g3)))
              · exact .inr (.inr (Bad.app (.inl h6)))
            · rcases h6 with ⟨h6, _⟩ | ⟨h6 | h6, _⟩
              · exact .inr (.inl (h6.less g3))
              · exact .inr (.inl (h6.good (.inr g3)))
              · exact .inr (.inr (Bad.app (.inl h6)))
            · exact .inr (.inr (Bad.app (.inr g3)))
theorem both_main (n : Nat) : ∀ (p t : List Int) (o : List S62), t.length ≤ n → b = p ++ t → o.length ≤ 10000 →
    (∃ new, (o ++ new).length ≤ 10000 ∧ (∀ s ∈ new, s.f3.length ≤ 1048576) ∧ Good new t ∧ (∀ r, SR b (o ++ new) (b.length : Int) r → SR b o (p.length : Int) r) ∧ IR b o (p.length : Int) (o ++ new, true)) ∨
    (IR b o (p.length : Int) ([], false) ∧ (SR b o (p.length : Int) ([], false) ∨ ∃ new, (o ++ new).length ≤ 10000 ∧ (∀ s ∈ new, s.f3.length ≤ 1048576) ∧ (Less new t ∨ Bad new) ∧ ∀ r, SR b (o ++ new) (b.length : Int) r → SR b o (p.length : Int) r)) := by
  have fin : ∀ (p : List Int) (o : List S62), b = p ++ [] → IR b o (p.length : Int) (o ++ [], true) := by
    intro p o he
    have hl : b.length = p.length := by rw [he]; simp
    refine Ev.step ?_
    simp only [impl_ReadDelta.l0, List.append_nil]
    exact Ev.neg (by omega) Ev.pure
  induction n with
  | zero =>
    intro p t o ht he ho
    obtain rfl : t = [] := List.length_eq_zero_iff.1 (by omega)
    exact .inl ⟨[], by simpa using ho, by simp, Good.nil, fun r h => by rw [he] at h ⊢; simpa using h, fin p o he⟩
  | succ n ih =>
    intro p t o ht he ho
    cases t with
    | nil => exact .inl ⟨[], by simpa using ho, by simp, Good.nil, fun r h => by rw [he] at h ⊢; simpa using h, fin p o he⟩
    | cons c t =>
      rcases step_both b hb hw o ho p t c he with ⟨h, h'⟩ | ⟨s, cs, t2, h1, h2, h3, h4, h5, h6⟩
      · exact .inr ⟨h', .inl h⟩
      have hlen : (c :: t).length = cs.length + t2.length := by rw [h1]; simp
      have mem : ∀ new : List S62, (∀ x ∈ new, x.f3.length ≤ 1048576) → ∀ x ∈ s :: new, x.f3.length ≤ 1048576 := fun new g x hx => by
        rcases List.mem_cons.1 hx with rfl | hx
        · exact h3
        · exact g x hx
      have he2 : b = (p ++ cs) ++ t2 := by rw [he, h1]; simp
      rcases h6 with ⟨h6, h7⟩ | ⟨h6, h7⟩
      · rcases ih (p ++ cs) t2 (o ++ [s]) (by omega) he2 (by simp; omega) with ⟨new, g1, g2, g3, g4, g5⟩ | ⟨g5, g | ⟨new, g1, g2, g3, g4⟩⟩
        · rw [List.append_assoc, List.singleton_append] at g1 g5
          refine .inl ⟨s :: new, g1, mem new g2, ?_, fun r hr => h5 r (g4 r (by rw [List.append_assoc, List.singleton_append]; exact hr)), h7 _ g5⟩
          rw [h1, show s :: new = [s] ++ new from rfl]
          exact h6.app g3
        · exact .inr ⟨h7 _ g5, .inl (h5 _ g)⟩
        · rw [List.append_assoc, List.singleton_append] at g1
          refine .inr ⟨h7 _ g5, .inr ⟨s :: new, g1, mem new g2, ?_, fun r hr => h5 r (g4 r (by rw [List.append_assoc, List.singleton_append]; exact hr))⟩⟩
          rw [h1, show s :: new = [s] ++ new from rfl]
          rcases g3 with g3 | g3
          · exact .inl (h6.less g3)
          · exact .inr (Bad.app (.inr g3))
      · refine .inr ⟨h7, ?_⟩
        rcases spec_main b hb hw n (p ++ cs) t2 (o ++ [s]) (by omega) he2 (by simp; omega) with g | ⟨new, g1, g2, g3, g4⟩
        · exact .inl (h5 _ g)
        · rw [List.append_assoc, List.singleton_append] at g1
          refine .inr ⟨s :: new, g1, mem new g2, ?_, fun r hr => h5 r (g4 r (by rw [List.append_assoc, List.singleton_append]; exact hr))⟩
          rw [h1, show s :: new = [s] ++ new from rfl]
          rcases h6 with h6 | h6
          · rcases g3 with g3 | g3 | g3
            · exact .inl (h6.good (.inl g3))
            · exact .inl (h6.good (.inr g3))
            · exact .inr (Bad.app (.inr g3))
          · exact .inr (Bad.app (.inl h6))
end

-- ReadH
section
variable (b : List Int) (hb : b.length ≤ 1048576) (hw : ∀ c ∈ b, 0 ≤ c ∧ c < 256)
include hb
omit hb in
/-- At the end: what is read is kept if its bytes are what was read. -/
theorem spec_end (o : List S62) (q : List Int) (hq : Ev (fun k => spec_DeltaBytes.f k o) q) (z : Bool) (hz : ((strOfNums q).toList == (strOfNums b).toList) = z) : SR b o (b.length : Int) (if z = true then (o, true) else ([], false)) := by
  refine Ev.step ?_
  simp only [spec_ReadDelta.l0]
  refine Ev.neg (by omega) (Ev.step ?_)
  simp only [spec_ReadDelta.j2]
  refine Ev.neg (by simp) (Ev.neg (by simp) (Ev.bind hq ?_))
  refine Ev.cons (a := z) (by unfold spec_l10Same.f; rw [hz]) ?_
  cases z
  · exact Ev.neg (by simp) Ev.pure
  · exact Ev.pos rfl Ev.pure
omit hb in
theorem db_of (o : List S62) (ho : o.length ≤ 10000) (r : List Int) (h : Ev (fun k => spec_DeltaBytes.l0 k o [76, 68, 84, 49] 0) r) : Ev (fun k => spec_DeltaBytes.f k o) r := by
  unfold spec_DeltaBytes.f
  exact Ev.neg (by omega) h
omit hb in
theorem neq_len (q : List Int) (h : q.length < b.length) : ((strOfNums q).toList == (strOfNums b).toList) = false := by
  rw [beq_eq_false_iff_ne]
  intro e
  have := congrArg List.length e
  rw [Lib.toList_data, Lib.toList_data, strOfNums_data, strOfNums_data, List.length_map, List.length_map] at this
  omega
include hw
theorem read_body (t : List Int) (he : b = [76, 68, 84, 49] ++ t) : ∃ r ok, SR b [] 4 (r, ok) ∧ IR b [] 4 (r, ok) ∧ r.length ≤ 10000 ∧ ∀ s ∈ r, s.f3.length ≤ 1048576 := by
  have hl : b.length = t.length + 4 := by rw [he]; simp
  rcases both_main b hb hw t.length [76, 68, 84, 49] t [] (Nat.le_refl _) he (by simp) with ⟨new, g1, g2, g3, g4, g5⟩ | ⟨g5, g | ⟨new, g1, g2, g3, g4⟩⟩
  · rw [List.nil_append] at g1 g4 g5
    have hr := run_db new (by omega) new [] [76, 68, 84, 49] ([76, 68, 84, 49] ++ t) rfl (g3 _ (by simp; omega)) (by simp; omega) g2
    rw [← he] at hr
    have := spec_end b new b (db_of new (by omega) b hr) true (by simp)
    exact ⟨new, true, g4 _ (by simpa using this), g5, by omega, g2⟩
  · exact ⟨[], false, g, g5, by simp, by simp⟩
  · rw [List.nil_append] at g1 g4
    refine ⟨[], false, g4 _ ?_, g5, by simp, by simp⟩
    by_cases hbad : Bad new
    · have hr := bad_db new (by omega) g2 new [] [76, 68, 84, 49] rfl hbad (by simp)
      have := spec_end b new [] (db_of new (by omega) [] hr) false (neq_len b [] (by simp; omega))
      simpa using this
    · have g3 : Less new t := by
        rcases g3 with g3 | g3
        · exact g3
        · exact absurd g3 hbad
      obtain ⟨q, h1, h2⟩ := g3 [76, 68, 84, 49] (by simp; omega)
      have h2 : q.length < b.length := by rw [hl]; simpa [Nat.add_comm] using h2
      have hr := run_db new (by omega) new [] [76, 68, 84, 49] q rfl h1 (by omega) g2
      have := spec_end b new q (db_of new (by omega) q hr) false (neq_len b q h2)
      simpa using this
end

-- AtL
theorem len1 {α : Type} (p : List α) (x : α) (h : p.length < 1000000000000000) : wrap64 ((p.length : Int) + 1) = (((p ++ [x]).length : Nat) : Int) := by
  rw [List.length_append]
  simp only [List.length_cons, List.length_nil]
  exact upN p.length h
theorem setAt {α : Type} (p t : List α) (x v : α) : (p ++ x :: t).set ((p.length : Nat) : Int).toNat v = (p ++ [v]) ++ t := by
  simp
theorem getAt {α : Type} (p t : List α) (x z : α) : (p ++ x :: t).getD ((p.length : Nat) : Int).toNat z = x := by
  simp [List.getD_eq_getElem?_getD]
theorem upI (a : Int) (h0 : 0 ≤ a) (h : a < 1000000000000000) : wrap64 (a + 1) = a + 1 := by unfold wrap64; omega

-- MarkB
/-- What marking from a on leaves of bytes. -/
def mkB : Int → List Int → List Int
  | _, [] => []
  | a, _ :: t => a % 256 :: mkB (a + 1) t
theorem mkB_length : ∀ (t : List Int) (a : Int), (mkB a t).length = t.length
  | [], _ => rfl
  | _ :: t, a => by simp [mkB, mkB_length t]
theorem markByteS_go (t : List Int) : ∀ (p : List Int) (a : Int), 0 ≤ a → a + t.length < 1000000000000000 → p.length + t.length < 1000000000000000 → Ev (fun k => laws_markByteS.l0 k (p ++ t) a (p.length : Int)) (a + t.length, p ++ mkB a t) := by
  induction t with
  | nil =>
    intro p a h0 h1 h2
    refine Ev.step ?_
    simp only [laws_markByteS.l0]
    refine Ev.neg (by simp) ?_
    simpa [mkB] using (Ev.pure (r := (a, p)))
  | cons x t ih =>
    intro p a h0 h1 h2
    rw [List.length_cons] at h1 h2
    have := ih (p ++ [a % 256]) (a + 1) (by omega) (by omega) (by rw [List.length_append]; simp; omega)
    refine Ev.step ?_
    simp only [laws_markByteS.l0, setAt, upI a h0 (by omega), len1 p (a % 256) (by omega)]
    refine Ev.pos (by simp; omega) (Ev.pos (by omega) ?_)
    rw [List.length_cons, mkB]
    rw [show p ++ [a % 256] ++ mkB (a + 1) t = p ++ a % 256 :: mkB (a + 1) t by simp] at this
    rw [show a + ((t.length + 1 : Nat) : Int) = a + 1 + t.length by omega]
    exact this
theorem markByteS_ev (t : List Int) (a : Int) (h0 : 0 ≤ a) (h1 : a + t.length < 1000000000000000) : Ev (fun k => laws_markByteS.f k t a) (a + t.length, mkB a t) := by
  unfold laws_markByteS.f
  exact markByteS_go t [] a h0 h1 (by simp; omega)
theorem heldByteS_go (t : List Int) : ∀ (p : List Int) (a : Int), 0 ≤ a → a + t.length < 1000000000000000 → p.length + t.length < 1000000000000000 → Ev (fun k => laws_heldByteS.l0 k (p ++ mkB a t) a (p.length : Int)) (a + t.length) := by
  induction t with
  | nil =>
    intro p a h0 h1 h2
    refine Ev.step ?_
    simp only [laws_heldByteS.l0]
    refine Ev.neg (by simp [mkB]) ?_
    simpa using (Ev.pure (r := a))
  | cons x t ih =>
    intro p a h0 h1 h2
    rw [List.length_cons] at h1 h2
    have := ih (p ++ [a % 256]) (a + 1) (by omega) (by omega) (by rw [List.length_append]; simp; omega)
    refine Ev.step ?_
    simp only [laws_heldByteS.l0, mkB, rd, getAt, upI a h0 (by omega), len1 p (a % 256) (by omega)]
    refine Ev.pos (by simp; omega) (Ev.pos (by omega) (Ev.pos trivial ?_))
    rw [List.append_assoc, List.singleton_append] at this
    rw [List.length_cons, show a + ((t.length + 1 : Nat) : Int) = a + 1 + t.length by omega]
    exact this
theorem heldByteS_ev (t : List Int) (a : Int) (h0 : 0 ≤ a) (h1 : a + t.length < 1000000000000000) : Ev (fun k => laws_heldByteS.f k (mkB a t) a) (a + t.length) := by
  unfold laws_heldByteS.f
  exact heldByteS_go t [] a h0 h1 (by simp; omega)

-- EqB
theorem toByteS_ev (x : List Int) (hx : x.length ≤ 140737488355328) : Ev (fun k => laws_toByteS.f k x) x := Ev.of (x.length + 1) (fun k hk => toByteS_f x hx k (by omega))
theorem eqByteS_ev (x : List Int) (hx : x.length ≤ 140737488355328) : Ev (fun k => laws_eqByteS.f k x x) true := Ev.of (x.length + 1) (fun k hk => eqByteS_f x hx k (by omega))
theorem rdS62 (l : List S62) (i : Nat) (h : i < l.length) : rd_T62 l (i : Int) = l[i] := by unfold rd_T62; simp [List.getD_eq_getElem?_getD, List.getElem?_eq_getElem h]

-- EqS
theorem eqStepS_ev (x : List S62) (hx : x.length ≤ 1048576) (ok : ∀ p ∈ x, p.f3.length ≤ 1048576) : Ev (fun k => laws_eqStepS.f k x x) true := by
  unfold laws_eqStepS.f
  refine Ev.pos rfl ?_
  refine countLoop (fun k i => laws_eqStepS.l0 k x x i) x.length true ?_ ?_
  · intro i hi h
    refine Ev.step ?_
    simp only [laws_eqStepS.l0, rdS62 x i hi, upN i (by omega), laws_eqStep.f]
    exact Ev.pos (by omega) (Ev.pos (by omega) (Ev.pos (by omega) (Ev.bind (Ev.pos trivial (Ev.pos trivial (Ev.pos trivial (Ev.bind (eqByteS_ev _ (by have := ok _ (List.getElem_mem hi); omega)) (Ev.pos rfl Ev.pure))))) (Ev.pos rfl h))))
  · refine Ev.step ?_
    simp only [laws_eqStepS.l0]
    exact Ev.neg (by omega) Ev.pure

-- MarkS
/-- What marking from a on leaves of steps, and the number behind. -/
def mkS : Int → List S62 → List S62
  | _, [] => []
  | a, s :: t => ⟨a, a + 1, a + 1 + 1, mkB (a + 1 + 1 + 1) s.f3⟩ :: mkS (a + 1 + 1 + 1 + s.f3.length) t
def endS : Int → List S62 → Int
  | a, [] => a
  | a, s :: t => endS (a + 1 + 1 + 1 + s.f3.length) t
theorem endS_ge : ∀ (t : List S62) (a : Int), a ≤ endS a t
  | [], a => Int.le_refl a
  | s :: t, a => by
    have := endS_ge t (a + 1 + 1 + 1 + s.f3.length)
    unfold endS
    omega
theorem endS_le (n : Nat) : ∀ (t : List S62) (a : Int), (∀ s ∈ t, s.f3.length ≤ n) → endS a t ≤ a + t.length * (n + 3)
  | [], a, _ => by simp [endS]
  | s :: t, a, h => by
    have h1 := endS_le n t (a + 1 + 1 + 1 + s.f3.length) (fun q hq => h q (List.mem_cons_of_mem _ hq))
    have h2 := h s List.mem_cons_self
    unfold endS
    rw [List.length_cons]
    have h3 : (((t.length + 1 : Nat) : Int)) * (n + 3) = t.length * (n + 3) + (n + 3) := by
      rw [Int.natCast_add, Int.add_mul]; simp
    rw [h3]
    omega
theorem markStepS_go (t : List S62) : ∀ (p : List S62) (a : Int), 0 ≤ a → endS a t < 1000000000000000 → p.length + t.length < 1000000000000000 → Ev (fun k => laws_markStepS.l0 k (p ++ t) a (p.length : Int)) (endS a t, p ++ mkS a t) := by
  induction t with
  | nil =>
    intro p a h0 h1 h2
    refine Ev.step ?_
    simp only [laws_markStepS.l0]
    refine Ev.neg (by simp) ?_
    simpa [mkS, endS] using (Ev.pure (r := (a, p)))
  | cons s t ih =>
    intro p a h0 h1 h2
    have hg := endS_ge t (a + 1 + 1 + 1 + s.f3.length)
    rw [List.length_cons] at h2
    unfold endS at h1
    have := ih (p ++ [⟨a, a + 1, a + 1 + 1, mkB (a + 1 + 1 + 1) s.f3⟩]) (a + 1 + 1 + 1 + s.f3.length) (by omega) h1 (by rw [List.length_append]; simp; omega)
    refine Ev.step ?_
    simp only [laws_markStepS.l0, rd_T62, getAt, upI a h0 (by omega), upI (a + 1) (by omega) (by omega), upI (a + 1 + 1) (by omega) (by omega)]
    refine Ev.pos (by simp; omega) (Ev.pos (by omega) (Ev.bind (markByteS_ev s.f3 (a + 1 + 1 + 1) (by omega) (by omega)) ?_))
    simp only [setAt, len1 p (⟨a, a + 1, a + 1 + 1, mkB (a + 1 + 1 + 1) s.f3⟩ : S62) (by omega)]
    rw [mkS, endS]
    rw [List.append_assoc p _ (mkS _ t), List.singleton_append] at this
    exact this
theorem markStepS_ev (t : List S62) (a : Int) (h0 : 0 ≤ a) (h1 : endS a t < 1000000000000000) (h2 : t.length < 1000000000000000) : Ev (fun k => laws_markStepS.f k t a) (endS a t, mkS a t) := by
  unfold laws_markStepS.f
  exact markStepS_go t [] a h0 h1 (by simpa using h2)

-- HeldS
theorem heldStepS_go (t : List S62) : ∀ (p : List S62) (a : Int), 0 ≤ a → endS a t < 1000000000000000 → p.length + t.length < 1000000000000000 → Ev (fun k => laws_heldStepS.l0 k (p ++ mkS a t) a (p.length : Int)) (endS a t) := by
  induction t with
  | nil =>
    intro p a h0 h1 h2
    refine Ev.step ?_
    simp only [laws_heldStepS.l0]
    refine Ev.neg (by simp [mkS]) ?_
    simpa [endS] using (Ev.pure (r := a))
  | cons s t ih =>
    intro p a h0 h1 h2
    have hg := endS_ge t (a + 1 + 1 + 1 + s.f3.length)
    rw [List.length_cons] at h2
    unfold endS at h1
    have := ih (p ++ [⟨a, a + 1, a + 1 + 1, mkB (a + 1 + 1 + 1) s.f3⟩]) (a + 1 + 1 + 1 + s.f3.length) (by omega) h1 (by rw [List.length_append]; simp; omega)
    refine Ev.step ?_
    simp only [laws_heldStepS.l0, mkS, rd_T62, getAt, upI a h0 (by omega), upI (a + 1) (by omega) (by omega), upI (a + 1 + 1) (by omega) (by omega), len1 p (⟨a, a + 1, a + 1 + 1, mkB (a + 1 + 1 + 1) s.f3⟩ : S62) (by omega)]
    refine Ev.pos (by simp; omega) (Ev.pos (by omega) (Ev.pos trivial (Ev.pos trivial (Ev.pos trivial (Ev.bind (heldByteS_ev s.f3 (a + 1 + 1 + 1) (by omega) (by omega)) (Ev.neg (by omega) ?_))))))
    rw [endS]
    rw [List.append_assoc, List.singleton_append] at this
    exact this
theorem heldStepS_ev (t : List S62) (a : Int) (h0 : 0 ≤ a) (h1 : endS a t < 1000000000000000) (h2 : t.length < 1000000000000000) : Ev (fun k => laws_heldStepS.f k (mkS a t) a) (endS a t) := by
  unfold laws_heldStepS.f
  exact heldStepS_go t [] a h0 h1 (by simpa using h2)

theorem take_str (b : List Int) : ((strOfNums b).extract 0 4).toList = (strOfNums (b.take 4)).toList := by
  rw [Lib.toList_data, Lib.toList_data, strOfNums_data, List.map_take]
  simp [strOfNums, ByteArray.data_extract]
theorem head_four (b : List Int) (hw : ∀ c ∈ b, 0 ≤ c ∧ c < 256) (h : (strOfNums (b.take 4)).toList = ([76, 68, 84, 49] : List UInt8)) : ∃ t, b = [76, 68, 84, 49] ++ t := by
  refine ⟨b.drop 4, ?_⟩
  have h2 := bytesL_str (b.take 4) (fun c hc => hw c (List.mem_of_mem_take hc))
  unfold bytesL at h2
  rw [← Lib.toList_data, h] at h2
  have h3 : b.take 4 = [76, 68, 84, 49] := by rw [← h2]; decide
  rw [← h3, List.take_append_drop]
theorem ReadDelta_ev (b : List Int) (hb : b.length ≤ 1048576) (hw : ∀ c ∈ b, 0 ≤ c ∧ c < 256) : ∃ r ok, Ev (fun k => spec_ReadDelta.f k b) (r, ok) ∧ Ev (fun k => impl_ReadDelta.f k b) (r, ok) ∧ r.length ≤ 10000 ∧ ∀ s ∈ r, s.f3.length ≤ 1048576 := by
  have hs : (strOfNums b).size = b.length := strOfNums_size b
  have h4 : (⟨#[76, 68, 84, 49]⟩ : ByteArray).size = 4 := rfl
  have ht : (⟨#[76, 68, 84, 49]⟩ : ByteArray).toList = ([76, 68, 84, 49] : List UInt8) := by rw [Lib.toList_data]
  have no : Ev (fun k => spec_ReadDelta.j0 k b ([] : List S62) true) (([] : List S62), false) := by
    refine Ev.step ?_
    simp only [spec_ReadDelta.j0]
    exact Ev.pos trivial Ev.pure
  unfold spec_ReadDelta.f impl_ReadDelta.f
  by_cases hl : b.length < 4
  · have hp : strings_HasPrefix.f (strOfNums b) (⟨#[76, 68, 84, 49]⟩ : ByteArray) = some false := by
      unfold strings_HasPrefix.f stringslite_HasPrefix.f
      rw [if_neg (by rw [hs, h4]; omega)]; rfl
    exact ⟨[], false, Ev.cons rfl (Ev.pos (by omega) no), Ev.cons hp (Ev.neg (by simp) Ev.pure), by simp, by simp⟩
  obtain ⟨z, hz⟩ : ∃ z, z = ((strOfNums (b.take 4)).toList == ([76, 68, 84, 49] : List UInt8)) := ⟨_, rfl⟩
  have hp : strings_HasPrefix.f (strOfNums b) (⟨#[76, 68, 84, 49]⟩ : ByteArray) = some z := by
    unfold strings_HasPrefix.f stringslite_HasPrefix.f
    rw [if_pos (by rw [hs, h4]; omega), if_pos (by rw [h4]; omega), if_pos (by rw [hs, h4]; omega), h4]
    show (some (((strOfNums b).extract 0 4).toList == (⟨#[76, 68, 84, 49]⟩ : ByteArray).toList)).bind _ = _
    rw [take_str b, ht, ← hz]; rfl
  have hz2 : ((strOfNums (b.take 4)).toList != ([76, 68, 84, 49] : List UInt8)) = !z := by rw [hz]; rfl
  cases z with
  | false => exact ⟨[], false, Ev.cons rfl (Ev.neg (by omega) (Ev.pos (by omega) (by rw [hz2]; exact no))), Ev.cons hp (Ev.neg (by simp) Ev.pure), by simp, by simp⟩
  | true =>
    obtain ⟨t, he⟩ := head_four b hw (by simpa using hz.symm)
    obtain ⟨r, ok, h1, h2, h3, h5⟩ := read_body b hb hw t he
    refine ⟨r, ok, Ev.cons rfl (Ev.neg (by omega) (Ev.pos (by omega) ?_)), Ev.cons hp (Ev.pos rfl h2), h3, h5⟩
    rw [hz2]
    refine Ev.step ?_
    simp only [spec_ReadDelta.j0]
    exact Ev.neg (by simp) h1
theorem FnExactReadDelta : laws_FnExactReadDelta.Pure := by
  intro x hx
  refine Ev.at ?_
  unfold laws_FnExactReadDelta.f
  by_cases cx : (x.length : Int) > 1048576
  · exact Ev.pos cx Ev.pure
  have hw : ∀ c ∈ x, 0 ≤ c ∧ c < 256 := fun c hc => by
    have := hx.2 c hc
    have e1 : IntKind.u8.min = 0 := by decide
    have e2 : IntKind.u8.max = 255 := by decide
    simp [Lit.wf] at this
    omega
  have tx := toByteS_ev x (by omega)
  have ex := eqByteS_ev x (by omega)
  obtain ⟨r, ok, r1, r2, hl, hd⟩ := ReadDelta_ev x (by omega) hw
  have er := eqStepS_ev r (by omega) (fun p hp => by have := hd p hp; omega)
  have hz := endS_le 1048576 r 1 hd
  have hz2 := endS_ge r 1
  have mx := markByteS_ev x 1 (by omega) (by omega)
  have ms := markStepS_ev r 1 (by omega) (by omega) (by omega)
  have hs := heldStepS_ev r 1 (by omega) (by omega) (by omega)
  exact Ev.neg cx (Ev.bind tx (Ev.bind r1 (Ev.bind tx (Ev.bind r2 (Ev.bind er (Ev.pos rfl (Ev.pos rfl (Ev.bind tx (Ev.bind ex (Ev.pos rfl (Ev.bind mx (Ev.neg (by omega) (Ev.bind er (Ev.pos rfl (Ev.bind ms (Ev.bind hs (Ev.neg (by omega) (Ev.pos rfl (Ev.bind tx (Ev.bind r2 (Ev.bind er (Ev.pos rfl (Ev.pos rfl (Ev.bind hs (Ev.pos rfl Ev.pure)))))))))))))))))))))))))

end Go.Proofs.Ytkijlpiiiejjkaa.Pure
