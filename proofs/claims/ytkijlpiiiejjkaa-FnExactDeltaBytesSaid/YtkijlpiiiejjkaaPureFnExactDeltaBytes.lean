/- The pure statement of FnExactDeltaBytes: the same bytes of the same steps; the answer holds its own marks. -/
import Derived.Test.YtkijlpiiiejjkaaPFnExactDeltaBytesx0
import Derived.Test.YtkijlpiiiejjkaaPFnExactDeltaBytesx1
import Derived.Test.YtkijlpiiiejjkaaPFnExactDeltaBytesx2
import Derived.Test.YtkijlpiiiejjkaaPFnExactDeltaBytesx3
import Derived.Test.YtkijlpiiiejjkaaPFnExactDeltaBytesx4
import Derived.Test.YtkijlpiiiejjkaaPFnExactDeltaBytesx5
import Derived.Laws.BitsLemmas
import Derived.Laws.Bits64b
import Derived.Lib.Bytealg
namespace Go.Proofs.Ytkijlpiiiejjkaa.Pure
open Go.RowKit Go.Proofs.YtkijlpiiiejjkaaW.PrintWords Go.Proofs.YtkijlpiiiejjkaaW.PrintLast Go.Proofs.YtkijlpiiiejjkaaW.PrintMore Go.Proofs.Ytkijlpiiiejjkaa.PFnExactDeltaBytes

theorem u64w (n : Int) (h0 : 0 ≤ n) (h1 : n < 18446744073709551616) : IntKind.u64.wrap n = n := by
  simp [IntKind.wrap, IntKind.signed, IntKind.bits]; omega
theorem i64w (n : Int) (h0 : -9223372036854775808 ≤ n) (h1 : n < 9223372036854775808) : IntKind.i64.wrap n = n := by
  rw [IntKind.wrap_i64]; omega
theorem w64 (n : Int) (h0 : -9223372036854775808 ≤ n) (h1 : n < 9223372036854775808) : wrap64 n = n := by unfold wrap64; omega
theorem up1 (i : Int) (h0 : 0 ≤ i) (h : i < 9223372036854775807) : wrap64 (i + 1) = i + 1 := by unfold wrap64; omega
theorem u64_lo (n : Int) : 0 ≤ IntKind.u64.wrap n := by simp [IntKind.wrap, IntKind.signed, IntKind.bits]; omega
theorem u64_hi (n : Int) : IntKind.u64.wrap n < 18446744073709551616 := by simp [IntKind.wrap, IntKind.signed, IntKind.bits]; omega
theorem u64_wf (x : Int) (h : (Lit.int .u64 x).wf = true) : 0 ≤ x ∧ x < 18446744073709551616 := by
  simp [Lit.wf, IntKind.min, IntKind.max, IntKind.signed, IntKind.bits] at h; omega
theorem and31 (x : Int) (h0 : 0 ≤ x) (h1 : x < 18446744073709551616) : Go.bits .and .u64 x 31 = x % 32 := by
  have := bits_mask .u64 64 (by decide) (fun n a b => u64w n a (by simpa using b)) 5 (by decide) x h0 (by simpa using h1)
  simpa using this
theorem or5 (a c : Int) (h0 : 0 ≤ a) (h1 : a * 32 < 18446744073709551616) (hc0 : 0 ≤ c) (hc : c < 32) : Go.bits .or .u64 (a * 32) c = a * 32 + c := by
  have := bits_join .u64 64 (by decide) (fun n x y => u64w n x (by simpa using y)) 5 (a * 32) c (by omega) (by omega) (by simpa using h1) hc0 (by simpa using hc) (by simp; omega)
  exact this
theorem bt_list (l : List UInt8) (i : Int) : bt ⟨l.toArray⟩ i = ((l.getD i.toNat 0).toNat : Int) := by
  unfold bt
  split
  · rename_i h
    have h' : i.toNat < l.length := by simpa [ByteArray.size] using h
    rw [List.getD_eq_getElem?_getD, List.getElem?_eq_getElem h']
    rfl
  · rename_i h
    have h' : l.length ≤ i.toNat := by simpa [ByteArray.size] using h
    rw [List.getD_eq_getElem?_getD, List.getElem?_eq_none h']; rfl
/-- The alphabet of chapter 1. -/
def alpha : ByteArray := ⟨#[48, 49, 50, 51, 52, 53, 54, 55, 56, 57, 97, 98, 99, 100, 102, 103, 104, 105, 106, 107, 108, 109, 110, 112, 113, 114, 115, 118, 119, 120, 121, 122]⟩
/-- The n-th digit from the right, as its byte. -/
def dg (x : Int) (n : Nat) : Int := bt alpha (x / 2 ^ (5 * n) % 32)
/-- The last n digits. -/
def ds (x : Int) : Nat → List Int
  | 0 => []
  | n + 1 => dg x n :: ds x n
theorem ds_length (x : Int) : ∀ n, (ds x n).length = n
  | 0 => rfl
  | n + 1 => by simp [ds, ds_length x n]
/-- The thirteen bytes. -/
def word (x : Int) : ByteArray := strOfNums (ds x 13)
theorem div_lo (x : Int) (h0 : 0 ≤ x) (n : Nat) : 0 ≤ x / 2 ^ n := Int.ediv_nonneg h0 (by have := Nat.two_pow_pos n; exact_mod_cast Nat.zero_le _)
theorem div_hi (x : Int) (h0 : 0 ≤ x) (n : Nat) : x / 2 ^ n ≤ x := Int.ediv_le_self _ h0
theorem shr5 (x : Int) (n : Nat) (hn : n ≤ 12) : shr .u64 x (5 * n) = x / 2 ^ (5 * n) := by
  unfold shr
  have e : (5 * (n : Int)).toNat = 5 * n := by omega
  rw [e, Nat.min_eq_left (by simp [IntKind.bits]; omega)]
/-- What a byte is worth as a digit; -1: it is none. -/
def dv (c : Int) : Int := Lib.indexByte alpha.data.toList c.toNat.toUInt8
theorem dv_all : ∀ c : Fin 256, -1 ≤ dv (c.val : Int) ∧ dv (c.val : Int) < 32 := by decide +kernel
theorem dv_bounds (c : Int) (h0 : 0 ≤ c) (h1 : c ≤ 255) : -1 ≤ dv c ∧ dv c < 32 := by
  have := dv_all ⟨c.toNat, by omega⟩
  simpa [Int.toNat_of_nonneg h0] using this
/-- The number that thirteen digits tell, from the i-th on. -/
def rwGo (s : ByteArray) : Nat → Int → Nat → Int × Bool
  | 0, x, _ => (x, true)
  | d + 1, x, i => if dv (bt s i) < 0 then (0, false) else if i = 0 ∧ dv (bt s i) > 15 then (0, false) else rwGo s d (x * 32 + dv (bt s i)) (i + 1)
def rw32 (s : ByteArray) : Int × Bool := if s.size = 13 then rwGo s 13 0 0 else (0, false)
/-- The bound that the digits so far keep. -/
def lim (d : Nat) : Int := if d = 13 then 1 else 2 ^ (64 - 5 * d)
theorem lim_all : ∀ d : Fin 13, lim d.val ≤ 18446744073709551616 ∧ 0 < lim d.val ∧ (d.val < 12 → lim (d.val + 1) * 32 = lim d.val) ∧ (d.val = 12 → lim d.val = 16) ∧ lim (d.val + 1) * 32 ≤ 18446744073709551616 := by decide +kernel
theorem word_size (x : Int) : (word x).size = 13 := by unfold word; rw [strOfNums_size, ds_length]

-- Ev
/-- With fuel enough the run answers r. -/
def Ev {α : Type} (f : Nat → Option α) (r : α) : Prop := ∃ K, ∀ k, K ≤ k → f k = some r
theorem Ev.pure {α : Type} {r : α} : Ev (fun _ => some r) r := ⟨0, fun _ _ => rfl⟩
theorem Ev.of {α : Type} {f : Nat → Option α} {r : α} (N : Nat) (h : ∀ k, N ≤ k → f k = some r) : Ev f r := ⟨N, h⟩
theorem Ev.step {α : Type} {f : Nat → Option α} {r : α} (h : Ev (fun k => f (k + 1)) r) : Ev f r := by
  obtain ⟨K, h⟩ := h
  refine ⟨K + 1, fun k hk => ?_⟩
  obtain ⟨m, rfl⟩ : ∃ m, k = m + 1 := ⟨k - 1, by omega⟩
  exact h m (by omega)
theorem Ev.bind {α β : Type} {f : Nat → Option α} {g : Nat → α → Option β} {a : α} {r : β} (h : Ev f a) (h2 : Ev (fun k => g k a) r) : Ev (fun k => (f k).bind (g k)) r := by
  obtain ⟨K, h⟩ := h
  obtain ⟨K2, h2⟩ := h2
  refine ⟨K + K2, fun k hk => ?_⟩
  show (f k).bind (g k) = some r
  rw [h k (by omega)]
  exact h2 k (by omega)
theorem Ev.cons {α β : Type} {x : Option α} {g : Nat → α → Option β} {a : α} {r : β} (h : x = some a) (h2 : Ev (fun k => g k a) r) : Ev (fun k => x.bind (g k)) r := by
  subst h
  exact h2
theorem Ev.pos {α : Type} {c : Prop} [Decidable c] {f g : Nat → Option α} {r : α} (hc : c) (h : Ev f r) : Ev (fun k => if c then f k else g k) r := by
  simpa only [if_pos hc] using h
theorem Ev.neg {α : Type} {c : Prop} [Decidable c] {f g : Nat → Option α} {r : α} (hc : ¬ c) (h : Ev g r) : Ev (fun k => if c then f k else g k) r := by
  simpa only [if_neg hc] using h
theorem Ev.at {α : Type} {f : Nat → Option α} {r : α} (h : Ev f r) : ∃ k, f k = some r := by
  obtain ⟨K, h⟩ := h
  exact ⟨K, h K (Nat.le_refl _)⟩
theorem Ev.uniq {α : Type} {f : Nat → Option α} {r s : α} (h : Ev f r) (h2 : Ev f s) : r = s := by
  obtain ⟨K, h⟩ := h
  obtain ⟨K2, h2⟩ := h2
  have a := h (K + K2) (by omega)
  have b := h2 (K + K2) (by omega)
  rw [a] at b
  exact Option.some.inj b
/-- From the end down. -/
theorem downTo (n : Nat) (P : Nat → Prop) (base : P n) (step : ∀ i, i < n → P (i + 1) → P i) : ∀ i, i ≤ n → P i := by
  intro i hi
  obtain ⟨d, rfl⟩ : ∃ d, i = n - d := ⟨n - i, by omega⟩
  clear hi
  induction d with
  | zero => exact base
  | succ d ih =>
    by_cases h : d < n
    · refine step _ (by omega) ?_
      have e : n - (d + 1) + 1 = n - d := by omega
      rw [e]; exact ih
    · have e : n - (d + 1) = n - d := by omega
      rw [e]; exact ih
theorem upN (i : Nat) (h : i < 1000000000000000) : wrap64 ((i : Int) + 1) = ((i + 1 : Nat) : Int) := by unfold wrap64; omega
theorem dnN (i : Nat) (h : i < 1000000000000000) (h0 : 0 < i) : wrap64 ((i : Int) - 1) = ((i - 1 : Nat) : Int) := by unfold wrap64; omega
/-- A loop that sets place by place leaves the row's picture. -/
theorem setLoop {A B : Type} (L : Nat → List B → Int → Option (List B)) (x : List A) (c : A → B)
    (step : ∀ (i : Nat) (y : List B) (r : List B) (h : i < x.length), y.length = x.length → Ev (fun k => L k (y.set i (c x[i])) ((i + 1 : Nat) : Int)) r → Ev (fun k => L k y (i : Int)) r)
    (stop : ∀ y : List B, y.length = x.length → Ev (fun k => L k y ((x.length : Nat) : Int)) y) :
    ∀ y : List B, y.length = x.length → Ev (fun k => L k y 0) (x.map c) := by
  have main := downTo x.length (fun i => ∀ y : List B, y.length = x.length → y.take i = (x.map c).take i → Ev (fun k => L k y (i : Int)) (x.map c)) ?_ ?_
  · intro y hy
    exact main 0 (by omega) y hy (by simp)
  · intro y hy he
    rw [List.take_of_length_le (by omega), List.take_of_length_le (by simp)] at he
    have := stop y hy
    rw [he] at this
    rw [he] at hy
    exact he ▸ stop y (by rw [he]; exact hy)
  · intro i hi ih y hy he
    refine step i y _ hi hy (ih _ (by simp [hy]) ?_)
    rw [List.take_add_one, List.take_add_one, List.take_set_of_le (by omega), he, List.getElem?_set_self (by omega)]
    simp [List.getElem?_eq_getElem hi]
theorem countLoop {α : Type} (L : Nat → Int → Option α) (n : Nat) (r : α) (step : ∀ i : Nat, i < n → Ev (fun k => L k ((i + 1 : Nat) : Int)) r → Ev (fun k => L k (i : Int)) r) (stop : Ev (fun k => L k ((n : Nat) : Int)) r) : Ev (fun k => L k 0) r :=
  downTo n (fun i => Ev (fun k => L k (i : Int)) r) stop (fun i hi h => step i hi h) 0 (by omega)

-- toByteS
theorem toByteS_loop (x : List Int) (hx : x.length ≤ 140737488355328) (d : Nat) : ∀ (k : Nat) (y : List Int) (i : Int), y.length = x.length → 0 ≤ i → i ≤ x.length → (x.length : Int) - i = d → d < k → y.take i.toNat = x.take i.toNat →
    laws_toByteS.l0 k x y i = some x := by
  induction d with
  | zero =>
    intro k y i hy h0 h1 hd hk he
    obtain ⟨k, rfl⟩ : ∃ m, k = m + 1 := ⟨k - 1, by omega⟩
    simp only [laws_toByteS.l0]
    rw [if_neg (by omega)]
    rw [List.take_of_length_le (by omega), List.take_of_length_le (by omega)] at he
    rw [he]
  | succ d ih =>
    intro k y i hy h0 h1 hd hk he
    obtain ⟨k, rfl⟩ : ∃ m, k = m + 1 := ⟨k - 1, by omega⟩
    simp only [laws_toByteS.l0]
    rw [if_pos (by omega), if_pos h0, if_pos (by omega), up1 i h0 (by omega)]
    refine ih k _ _ (by simp [hy]) (by omega) (by omega) (by omega) (by omega) ?_
    have e1 : (i + 1).toNat = i.toNat + 1 := by omega
    rw [e1, List.take_add_one, List.take_add_one, List.take_set_of_le (by omega), he, List.getElem?_set_self (by omega)]
    unfold rd
    rw [List.getElem?_eq_getElem (show i.toNat < x.length by omega)]
    simp [List.getD_eq_getElem?_getD, List.getElem?_eq_getElem (show i.toNat < x.length by omega)]
theorem toByteS_f (x : List Int) (hx : x.length ≤ 140737488355328) (k : Nat) (hk : x.length < k) : laws_toByteS.f k x = some x := by
  unfold laws_toByteS.f
  rw [if_pos (by omega), if_pos (by omega)]
  exact toByteS_loop x hx x.length k _ 0 (by simp) (by omega) (by omega) (by omega) hk (by simp)

-- eqByteS
theorem eqByteS_loop (x : List Int) (hx : x.length ≤ 140737488355328) (d : Nat) : ∀ (k : Nat) (i : Int), 0 ≤ i → i ≤ x.length → (x.length : Int) - i = d → d < k → laws_eqByteS.l0 k x x i = some true := by
  induction d with
  | zero =>
    intro k i h0 h1 hd hk
    obtain ⟨k, rfl⟩ : ∃ m, k = m + 1 := ⟨k - 1, by omega⟩
    simp only [laws_eqByteS.l0]
    rw [if_neg (by omega)]
  | succ d ih =>
    intro k i h0 h1 hd hk
    obtain ⟨k, rfl⟩ : ∃ m, k = m + 1 := ⟨k - 1, by omega⟩
    simp only [laws_eqByteS.l0]
    rw [if_pos (by omega), if_pos h0, if_pos (by omega), up1 i h0 (by omega)]
    simp only [if_true]
    exact ih k _ (by omega) (by omega) (by omega) (by omega)
theorem eqByteS_f (x : List Int) (hx : x.length ≤ 140737488355328) (k : Nat) (hk : x.length < k) : laws_eqByteS.f k x x = some true := by
  unfold laws_eqByteS.f
  rw [if_pos rfl]
  exact eqByteS_loop x hx x.length k 0 (by omega) (by omega) (by omega) hk

-- EqB
theorem toByteS_ev (x : List Int) (hx : x.length ≤ 140737488355328) : Ev (fun k => laws_toByteS.f k x) x := Ev.of (x.length + 1) (fun k hk => toByteS_f x hx k (by omega))
theorem eqByteS_ev (x : List Int) (hx : x.length ≤ 140737488355328) : Ev (fun k => laws_eqByteS.f k x x) true := Ev.of (x.length + 1) (fun k hk => eqByteS_f x hx k (by omega))
theorem rdS62 (l : List S62) (i : Nat) (h : i < l.length) : rd_T62 l (i : Int) = l[i] := by unfold rd_T62; simp [List.getD_eq_getElem?_getD, List.getElem?_eq_getElem h]

-- EqS
theorem eqStepS_ev (x : List S62) (hx : x.length ≤ 1048576) (ok : ∀ p ∈ x, p.f3.length ≤ 1048576) : Ev (fun k => laws_eqStepS.f k x x) true := by
  unfold laws_eqStepS.f
  refine Ev.pos rfl ?_
  refine countLoop (fun k i => laws_eqStepS.l0 k x x i) x.length true ?_ ?_
  · intro i hi h
    refine Ev.step ?_
    simp only [laws_eqStepS.l0, rdS62 x i hi, upN i (by omega), laws_eqStep.f]
    exact Ev.pos (by omega) (Ev.pos (by omega) (Ev.pos (by omega) (Ev.bind (Ev.pos trivial (Ev.pos trivial (Ev.pos trivial (Ev.bind (eqByteS_ev _ (by have := ok _ (List.getElem_mem hi); omega)) (Ev.pos rfl Ev.pure))))) (Ev.pos rfl h))))
  · refine Ev.step ?_
    simp only [laws_eqStepS.l0]
    exact Ev.neg (by omega) Ev.pure

-- AtL
theorem len1 {α : Type} (p : List α) (x : α) (h : p.length < 1000000000000000) : wrap64 ((p.length : Int) + 1) = (((p ++ [x]).length : Nat) : Int) := by
  rw [List.length_append]
  simp only [List.length_cons, List.length_nil]
  exact upN p.length h
theorem setAt {α : Type} (p t : List α) (x v : α) : (p ++ x :: t).set ((p.length : Nat) : Int).toNat v = (p ++ [v]) ++ t := by
  simp
theorem getAt {α : Type} (p t : List α) (x z : α) : (p ++ x :: t).getD ((p.length : Nat) : Int).toNat z = x := by
  simp [List.getD_eq_getElem?_getD]
theorem upI (a : Int) (h0 : 0 ≤ a) (h : a < 1000000000000000) : wrap64 (a + 1) = a + 1 := by unfold wrap64; omega

-- MarkB
/-- What marking from a on leaves of bytes. -/
def mkB : Int → List Int → List Int
  | _, [] => []
  | a, _ :: t => a % 256 :: mkB (a + 1) t
theorem mkB_length : ∀ (t : List Int) (a : Int), (mkB a t).length = t.length
  | [], _ => rfl
  | _ :: t, a => by simp [mkB, mkB_length t]
theorem markByteS_go (t : List Int) : ∀ (p : List Int) (a : Int), 0 ≤ a → a + t.length < 1000000000000000 → p.length + t.length < 1000000000000000 → Ev (fun k => laws_markByteS.l0 k (p ++ t) a (p.length : Int)) (a + t.length, p ++ mkB a t) := by
  induction t with
  | nil =>
    intro p a h0 h1 h2
    refine Ev.step ?_
    simp only [laws_markByteS.l0]
    refine Ev.neg (by simp) ?_
    simpa [mkB] using (Ev.pure (r := (a, p)))
  | cons x t ih =>
    intro p a h0 h1 h2
    rw [List.length_cons] at h1 h2
    have := ih (p ++ [a % 256]) (a + 1) (by omega) (by omega) (by rw [List.length_append]; simp; omega)
    refine Ev.step ?_
    simp only [laws_markByteS.l0, setAt, upI a h0 (by omega), len1 p (a % 256) (by omega)]
    refine Ev.pos (by simp; omega) (Ev.pos (by omega) ?_)
    rw [List.length_cons, mkB]
    rw [show p ++ [a % 256] ++ mkB (a + 1) t = p ++ a % 256 :: mkB (a + 1) t by simp] at this
    rw [show a + ((t.length + 1 : Nat) : Int) = a + 1 + t.length by omega]
    exact this
theorem markByteS_ev (t : List Int) (a : Int) (h0 : 0 ≤ a) (h1 : a + t.length < 1000000000000000) : Ev (fun k => laws_markByteS.f k t a) (a + t.length, mkB a t) := by
  unfold laws_markByteS.f
  exact markByteS_go t [] a h0 h1 (by simp; omega)
theorem heldByteS_go (t : List Int) : ∀ (p : List Int) (a : Int), 0 ≤ a → a + t.length < 1000000000000000 → p.length + t.length < 1000000000000000 → Ev (fun k => laws_heldByteS.l0 k (p ++ mkB a t) a (p.length : Int)) (a + t.length) := by
  induction t with
  | nil =>
    intro p a h0 h1 h2
    refine Ev.step ?_
    simp only [laws_heldByteS.l0]
    refine Ev.neg (by simp [mkB]) ?_
    simpa using (Ev.pure (r := a))
  | cons x t ih =>
    intro p a h0 h1 h2
    rw [List.length_cons] at h1 h2
    have := ih (p ++ [a % 256]) (a + 1) (by omega) (by omega) (by rw [List.length_append]; simp; omega)
    refine Ev.step ?_
    simp only [laws_heldByteS.l0, mkB, rd, getAt, upI a h0 (by omega), len1 p (a % 256) (by omega)]
    refine Ev.pos (by simp; omega) (Ev.pos (by omega) (Ev.pos trivial ?_))
    rw [List.append_assoc, List.singleton_append] at this
    rw [List.length_cons, show a + ((t.length + 1 : Nat) : Int) = a + 1 + t.length by omega]
    exact this
theorem heldByteS_ev (t : List Int) (a : Int) (h0 : 0 ≤ a) (h1 : a + t.length < 1000000000000000) : Ev (fun k => laws_heldByteS.f k (mkB a t) a) (a + t.length) := by
  unfold laws_heldByteS.f
  exact heldByteS_go t [] a h0 h1 (by simp; omega)

-- MarkS
/-- What marking from a on leaves of steps, and the number behind. -/
def mkS : Int → List S62 → List S62
  | _, [] => []
  | a, s :: t => ⟨a, a + 1, a + 1 + 1, mkB (a + 1 + 1 + 1) s.f3⟩ :: mkS (a + 1 + 1 + 1 + s.f3.length) t
def endS : Int → List S62 → Int
  | a, [] => a
  | a, s :: t => endS (a + 1 + 1 + 1 + s.f3.length) t
theorem endS_ge : ∀ (t : List S62) (a : Int), a ≤ endS a t
  | [], a => Int.le_refl a
  | s :: t, a => by
    have := endS_ge t (a + 1 + 1 + 1 + s.f3.length)
    unfold endS
    omega
theorem endS_le (n : Nat) : ∀ (t : List S62) (a : Int), (∀ s ∈ t, s.f3.length ≤ n) → endS a t ≤ a + t.length * (n + 3)
  | [], a, _ => by simp [endS]
  | s :: t, a, h => by
    have h1 := endS_le n t (a + 1 + 1 + 1 + s.f3.length) (fun q hq => h q (List.mem_cons_of_mem _ hq))
    have h2 := h s List.mem_cons_self
    unfold endS
    rw [List.length_cons]
    have h3 : (((t.length + 1 : Nat) : Int)) * (n + 3) = t.length * (n + 3) + (n + 3) := by
      rw [Int.natCast_add, Int.add_mul]; simp
    rw [h3]
    omega
theorem markStepS_go (t : List S62) : ∀ (p : List S62) (a : Int), 0 ≤ a → endS a t < 1000000000000000 → p.length + t.length < 1000000000000000 → Ev (fun k => laws_markStepS.l0 k (p ++ t) a (p.length : Int)) (endS a t, p ++ mkS a t) := by
  induction t with
  | nil =>
    intro p a h0 h1 h2
    refine Ev.step ?_
    simp only [laws_markStepS.l0]
    refine Ev.neg (by simp) ?_
    simpa [mkS, endS] using (Ev.pure (r := (a, p)))
  | cons s t ih =>
    intro p a h0 h1 h2
    have hg := endS_ge t (a + 1 + 1 + 1 + s.f3.length)
    rw [List.length_cons] at h2
    unfold endS at h1
    have := ih (p ++ [⟨a, a + 1, a + 1 + 1, mkB (a + 1 + 1 + 1) s.f3⟩]) (a + 1 + 1 + 1 + s.f3.length) (by omega) h1 (by rw [List.length_append]; simp; omega)
    refine Ev.step ?_
    simp only [laws_markStepS.l0, rd_T62, getAt, upI a h0 (by omega), upI (a + 1) (by omega) (by omega), upI (a + 1 + 1) (by omega) (by omega)]
    refine Ev.pos (by simp; omega) (Ev.pos (by omega) (Ev.bind (markByteS_ev s.f3 (a + 1 + 1 + 1) (by omega) (by omega)) ?_))
    simp only [setAt, len1 p (⟨a, a + 1, a + 1 + 1, mkB (a + 1 + 1 + 1) s.f3⟩ : S62) (by omega)]
    rw [mkS, endS]
    rw [List.append_assoc p _ (mkS _ t), List.singleton_append] at this
    exact this
theorem markStepS_ev (t : List S62) (a : Int) (h0 : 0 ≤ a) (h1 : endS a t < 1000000000000000) (h2 : t.length < 1000000000000000) : Ev (fun k => laws_markStepS.f k t a) (endS a t, mkS a t) := by
  unfold laws_markStepS.f
  exact markStepS_go t [] a h0 h1 (by simpa using h2)

-- ToStep
theorem rdS65 (l : List S65) (i : Nat) (h : i < l.length) : rd_T65 l (i : Int) = l[i] := by unfold rd_T65; simp [List.getD_eq_getElem?_getD, List.getElem?_eq_getElem h]
def cStep (s : S65) : S62 := ⟨s.f0, s.f1, s.f2, s.f3⟩
theorem szStep_f (a b c : Int) (l : List Int) (m : Int) (h0 : 0 ≤ m) (h1 : m ≤ 1048576) (hl : l.length ≤ 9223372036854775807) : ∃ t, laws_szStep.f a b c l m = some t ∧ (0 ≤ t → t ≤ m ∧ l.length ≤ 1048576) ∧ t ≤ 1048576 := by
  unfold laws_szStep.f laws_szByteS.f
  rw [w64 _ (by omega) (by omega)]
  by_cases h : m - (l.length : Int) < 0
  · rw [if_pos h]
    exact ⟨-1, rfl, by omega, by omega⟩
  · rw [if_neg h]
    refine ⟨m - (l.length : Int), ?_, by omega, by omega⟩
    show (if m - (l.length : Int) < 0 then some (-1) else some (m - (l.length : Int))) = _
    rw [if_neg h]
theorem szStepS_ev (x : List S65) (m : Int) (h0 : 0 ≤ m) (h1 : m ≤ 1048576) (hx : x.length ≤ 9223372036854775807) (ok : ∀ s ∈ x, s.f3.length ≤ 9223372036854775807) :
    ∃ t, Ev (fun k => laws_szStepS.f k x m) t ∧ (0 ≤ t → x.length ≤ 1048576 ∧ ∀ s ∈ x, s.f3.length ≤ 1048576) := by
  unfold laws_szStepS.f
  rw [w64 _ (by omega) (by omega)]
  by_cases h : m - (x.length : Int) < 0
  · exact ⟨_, Ev.pos h Ev.pure, by omega⟩
  · have key := downTo x.length (fun i => ∀ a : Int, 0 ≤ a → a ≤ 1048576 → ∃ t, Ev (fun k => laws_szStepS.l0 k x a (i : Int)) t ∧ (0 ≤ t → ∀ s ∈ x.drop i, s.f3.length ≤ 1048576)) ?_ ?_ 0 (by omega)
    · obtain ⟨t, a, b⟩ := key (m - (x.length : Int)) (by omega) (by omega)
      refine ⟨t, Ev.neg h a, fun h3 => ⟨by omega, ?_⟩⟩
      simpa using b h3
    · intro a a0 a1
      refine ⟨a, Ev.step ?_, by simp⟩
      simp only [laws_szStepS.l0]
      exact Ev.neg (by omega) Ev.pure
    · intro i hi ih a a0 a1
      obtain ⟨t, ht, hm, hn⟩ := szStep_f (x[i]).f0 (x[i]).f1 (x[i]).f2 (x[i]).f3 a a0 a1 (ok _ (List.getElem_mem hi))
      by_cases h2 : t < 0
      · refine ⟨-1, Ev.step ?_, by omega⟩
        simp only [laws_szStepS.l0, rdS65 x i hi]
        exact Ev.pos (by omega) (Ev.pos (by omega) (Ev.cons ht (Ev.pos h2 Ev.pure)))
      · obtain ⟨r, hr, hr2⟩ := ih t (by omega) hn
        refine ⟨r, Ev.step ?_, ?_⟩
        · simp only [laws_szStepS.l0, rdS65 x i hi, upN i (by omega)]
          exact Ev.pos (by omega) (Ev.pos (by omega) (Ev.cons ht (Ev.neg h2 hr)))
        · intro h3 p hp
          rw [List.drop_eq_getElem_cons hi] at hp
          rcases List.mem_cons.1 hp with rfl | hp
          · exact (hm (by omega)).2
          · exact hr2 h3 p hp
theorem toStepS_ev (x : List S65) (hx : x.length ≤ 1048576) (ok : ∀ s ∈ x, s.f3.length ≤ 1048576) : Ev (fun k => laws_toStepS.f k x) (x.map cStep) := by
  unfold laws_toStepS.f
  refine Ev.pos (by omega) (Ev.pos (by omega) ?_)
  refine setLoop (fun k y i => laws_toStepS.l0 k x y i) x cStep ?_ ?_ _ (by simp)
  · intro i y r hi hy h
    have o1 := ok _ (List.getElem_mem hi)
    refine Ev.step ?_
    simp only [laws_toStepS.l0, rdS65 x i hi, upN i (by omega), laws_toStep.f]
    exact Ev.pos (by omega) (Ev.pos (by omega) (Ev.bind (Ev.bind (toByteS_ev _ (by omega)) Ev.pure) (Ev.pos (by omega) h)))
  · intro y hy
    refine Ev.step ?_
    simp only [laws_toStepS.l0]
    exact Ev.neg (by omega) Ev.pure

-- StepOk
theorem specStep (a b c : Int) (l : List Int) : ∃ t, spec_l14StepOk.f a b c l = some t ∧ (t = true ↔ ((a = 1 ∧ 1 ≤ c ∧ c ≤ 268435455 ∧ 0 ≤ b ∧ b ≤ 268435455 ∧ l.length = 0) ∨ (a = 2 ∧ b = 0 ∧ c = 0 ∧ 0 < l.length))) := by
  unfold spec_l14StepOk.f
  repeat' split
  all_goals refine ⟨_, rfl, ?_⟩
  all_goals simp only [beq_iff_eq, decide_eq_true_eq, Bool.false_eq_true, false_iff]
  all_goals omega
theorem implStep (a b c : Int) (l : List Int) : ∃ t, impl_stepOk.f a b c l = some t ∧ (t = true ↔ ((a = 1 ∧ 1 ≤ c ∧ l.length = 0) ∨ (a = 2 ∧ b = 0 ∧ c = 0 ∧ 1 ≤ l.length))) := by
  unfold impl_stepOk.f
  repeat' split
  all_goals refine ⟨_, rfl, ?_⟩
  all_goals simp only [beq_iff_eq, Bool.false_eq_true, false_iff, true_iff]
  all_goals omega

-- DeltaB
theorem or128_all : ∀ c : Fin 128, Go.bits .or .u8 (c.val : Int) 128 = (c.val : Int) + 128 := by decide +kernel
theorem or128 (c : Int) (h0 : 0 ≤ c) (h1 : c < 128) : Go.bits .or .u8 c 128 = c + 128 := by
  have := or128_all ⟨c.toNat, by omega⟩
  simpa [Int.toNat_of_nonneg h0] using this
theorem and127 (x : Int) (h0 : 0 ≤ x) (h1 : x < 9223372036854775808) : Go.bits .and .i64 x 127 = x % 128 := by
  have := bits_mask .i64 63 (by decide) (fun n a b => i64w n (by omega) (by simpa using b)) 7 (by decide) x h0 (by simpa using h1)
  simpa using this
/-- A number in sevens: at most nine bytes. -/
theorem num_go (d : Nat) (hd : d ≤ 8) : ∀ (out : List Int) (n : Int), 0 ≤ n → n < 128 ^ d → out.length + d < 100000000000000 → ∃ r, Ev (fun k => spec_l10Num.l0 k out n) r ∧ Ev (fun k => impl_putSeven.l0 k out n) r ∧ r.length ≤ out.length + d + 1 := by
  induction d with
  | zero =>
    intro out n h0 h1 h2
    have hn : n < 128 := by simp at h1; omega
    refine ⟨out ++ [n % 256], Ev.step ?_, Ev.step ?_, by simp⟩
    · simp only [spec_l10Num.l0]
      exact Ev.neg (by omega) (Ev.pos (by omega) Ev.pure)
    · simp only [impl_putSeven.l0]
      exact Ev.neg (by omega) (Ev.pos (by omega) Ev.pure)
  | succ d ih =>
    intro out n h0 h1 h2
    by_cases c : n ≥ 128
    · have hp : (128 : Int) ^ (d + 1) = 128 ^ d * 128 := Int.pow_succ 128 d
      have hm : (128 : Int) ^ (d + 1) ≤ 128 ^ 8 := by
        have := Nat.pow_le_pow_right (n := 128) (by omega) hd
        exact_mod_cast this
      have hm2 : (128 : Int) ^ 8 = 72057594037927936 := by decide
      rw [hm2] at hm
      have hs : ∃ l : List Int, l = out ++ [n % 128 + 128] ∧ l.length = out.length + 1 := ⟨_, rfl, by simp⟩
      obtain ⟨l, hl, hll⟩ := hs
      obtain ⟨r, r1, r2, r3⟩ := ih (by omega) l (n / 128) (by omega) (by omega) (by omega)
      have e1 : Unit → (wrap64 ((Int.tmod n 128) + 128)) % 256 = n % 128 + 128 := fun _ => by
        rw [Int.tmod_eq_emod_of_nonneg h0, w64 _ (by omega) (by omega)]; omega
      have e2 : Unit → wrap64 (Int.tdiv n 128) = n / 128 := fun _ => by
        rw [Int.tdiv_eq_ediv_of_nonneg h0, w64 _ (by omega) (by omega)]
      have e3 : Unit → Go.bits .or .u8 ((Go.bits .and .i64 n 127) % 256) 128 = n % 128 + 128 := fun _ => by
        rw [and127 n h0 (by omega), Int.emod_eq_of_lt (by omega) (by omega), or128 _ (by omega) (by omega)]
      refine ⟨r, Ev.step ?_, Ev.step ?_, by omega⟩
      · simp only [spec_l10Num.l0, e1 (), e2 (), ← hl]
        exact Ev.pos c (Ev.pos (by omega) r1)
      · simp only [impl_putSeven.l0, e3 (), ← hl]
        exact Ev.pos (by omega) (Ev.pos (by omega) r2)
    · refine ⟨out ++ [n % 256], Ev.step ?_, Ev.step ?_, by rw [List.length_append, List.length_singleton]; omega⟩
      · simp only [spec_l10Num.l0]
        exact Ev.neg (by omega) (Ev.pos (by omega) Ev.pure)
      · simp only [impl_putSeven.l0]
        exact Ev.neg (by omega) (Ev.pos (by omega) Ev.pure)
theorem num_ev (out : List Int) (n : Int) (h0 : 0 ≤ n) (h1 : n < 72057594037927936) (h2 : out.length + 8 < 100000000000000) : ∃ r, Ev (fun k => spec_l10Num.f k out n) r ∧ Ev (fun k => impl_putSeven.f k out n) r ∧ r.length ≤ out.length + 9 := by
  unfold spec_l10Num.f impl_putSeven.f
  exact num_go 8 (by omega) out n h0 (by rw [show (128 : Int) ^ 8 = 72057594037927936 by decide]; exact h1) h2
theorem DeltaBytes_ev (ds : List S62) (hd : ds.length ≤ 1048576) (ok : ∀ s ∈ ds, s.f3.length ≤ 1048576) :
    ∃ r, Ev (fun k => spec_DeltaBytes.f k ds) r ∧ Ev (fun k => impl_DeltaBytes.f k ds) r ∧ r.length ≤ 50000000000 := by
  unfold spec_DeltaBytes.f impl_DeltaBytes.f
  by_cases c0 : (ds.length : Int) > 10000
  · exact ⟨[], Ev.pos c0 Ev.pure, Ev.pos c0 Ev.pure, by simp⟩
  have key := downTo ds.length (fun i => ∀ out : List Int, out.length ≤ 4 + i * 1048600 → ∃ r, Ev (fun k => spec_DeltaBytes.l0 k ds out (i : Int)) r ∧ Ev (fun k => impl_DeltaBytes.l0 k out ds (ds.length : Int) (i : Int)) r ∧ r.length ≤ 50000000000) ?_ ?_ 0 (by omega) [76, 68, 84, 49] (by simp)
  · obtain ⟨r, h1, h2, h3⟩ := key
    exact ⟨r, Ev.neg c0 h1, Ev.neg c0 h2, h3⟩
  · intro out ho
    refine ⟨out, Ev.step ?_, Ev.step ?_, by omega⟩
    · simp only [spec_DeltaBytes.l0]
      exact Ev.neg (by omega) Ev.pure
    · simp only [impl_DeltaBytes.l0]
      exact Ev.neg (by omega) Ev.pure
  · intro i hi ih out ho
    have hl := ok _ (List.getElem_mem hi)
    obtain ⟨ts, es, is⟩ := specStep (ds[i]).f0 (ds[i]).f1 (ds[i]).f2 (ds[i]).f3
    obtain ⟨ti, ei, ii⟩ := implStep (ds[i]).f0 (ds[i]).f1 (ds[i]).f2 (ds[i]).f3
    generalize hk : (ds[i]).f0 = kind at *
    generalize ha : (ds[i]).f1 = at_ at *
    generalize hn : (ds[i]).f2 = n at *
    generalize hdt : (ds[i]).f3 = dt at *
    have up : Unit → wrap64 ((i : Int) + 1) = ((i + 1 : Nat) : Int) := fun _ => upN i (by omega)
    have hlen : (out ++ [kind % 256]).length = out.length + 1 := by simp
    have fin : ∀ b : Bool, b = true → Ev (fun k => impl_DeltaBytes.j1 k (out ++ [kind % 256]) ds (ds.length : Int) (i : Int) b kind at_ n dt) ([] : List Int) := by
      intro b hb
      refine Ev.step ?_
      simp only [impl_DeltaBytes.j1]
      exact Ev.pos hb Ev.pure
    by_cases g1 : kind = 1 ∧ 1 ≤ n ∧ n ≤ 268435455 ∧ 0 ≤ at_ ∧ at_ ≤ 268435455 ∧ dt.length = 0
    · obtain ⟨k1, n1, n2, a0, a1, d0⟩ := g1
      have et : ts = true := is.2 (Or.inl ⟨k1, n1, n2, a0, a1, d0⟩)
      have ez : ti = true := ii.2 (Or.inl ⟨k1, n1, d0⟩)
      subst et
      subst ez
      clear is ii
      obtain ⟨r1, s1, i1, l1⟩ := num_ev (out ++ [kind % 256]) at_ a0 (by omega) (by rw [hlen]; omega)
      obtain ⟨r2, s2, i2, l2⟩ := num_ev r1 n (by omega) (by omega) (by omega)
      obtain ⟨r, h1, h2, h3⟩ := ih r2 (by omega)
      refine ⟨r, Ev.step ?_, Ev.step ?_, h3⟩
      · simp only [spec_DeltaBytes.l0, rdS62 ds i hi, hk, ha, hn, hdt, up ()]
        exact Ev.pos (by omega) (Ev.pos (by omega) (Ev.cons es (Ev.pos rfl (Ev.pos (by omega) (Ev.cons rfl (Ev.pos k1 (Ev.bind s1 (Ev.bind s2 h1))))))))
      · have f2 : decide (n > 268435455) = false := decide_eq_false (by omega)
        simp only [impl_DeltaBytes.l0, rdS62 ds i hi, hk, ha, hn, hdt, f2]
        refine Ev.pos (by omega) (Ev.pos (by omega) (Ev.pos (by omega) (Ev.cons ei (Ev.pos rfl (Ev.pos (by omega) (Ev.cons rfl (Ev.pos k1 (Ev.neg (by omega) (Ev.neg (by omega) (Ev.step ?_))))))))))
        simp only [impl_DeltaBytes.j1, up ()]
        exact Ev.neg (by simp) (Ev.bind i1 (Ev.bind i2 h2))
    by_cases g2 : kind = 2 ∧ at_ = 0 ∧ n = 0 ∧ 1 ≤ dt.length
    · obtain ⟨k1, a0, n0, d0⟩ := g2
      have et : ts = true := is.2 (Or.inr ⟨k1, a0, n0, by omega⟩)
      have ez : ti = true := ii.2 (Or.inr ⟨k1, a0, n0, d0⟩)
      subst et
      subst ez
      clear is ii
      obtain ⟨r1, s1, i1, l1⟩ := num_ev (out ++ [kind % 256]) (dt.length : Int) (by omega) (by omega) (by rw [hlen]; omega)
      obtain ⟨r, h1, h2, h3⟩ := ih (r1 ++ dt) (by rw [List.length_append]; omega)
      refine ⟨r, Ev.step ?_, Ev.step ?_, h3⟩
      · simp only [spec_DeltaBytes.l0, rdS62 ds i hi, hk, ha, hn, hdt, up ()]
        exact Ev.pos (by omega) (Ev.pos (by omega) (Ev.cons es (Ev.pos rfl (Ev.pos (by omega) (Ev.cons rfl (Ev.neg (by omega) (Ev.bind s1 (Ev.pos (by omega) h1))))))))
      · simp only [impl_DeltaBytes.l0, rdS62 ds i hi, hk, ha, hn, hdt, up ()]
        exact Ev.pos (by omega) (Ev.pos (by omega) (Ev.pos (by omega) (Ev.cons ei (Ev.pos rfl (Ev.pos (by omega) (Ev.cons rfl (Ev.neg (by omega) (Ev.bind i1 (Ev.pos (by omega) h2)))))))))
    · have et : ts = false := by
        cases ts
        · rfl
        · have := is.1 rfl
          omega
      subst et
      refine ⟨[], Ev.step ?_, Ev.step ?_, by simp⟩
      · simp only [spec_DeltaBytes.l0, rdS62 ds i hi, hk, ha, hn, hdt]
        exact Ev.pos (by omega) (Ev.pos (by omega) (Ev.cons es (Ev.neg (by simp) Ev.pure)))
      · simp only [impl_DeltaBytes.l0, rdS62 ds i hi, hk, ha, hn, hdt]
        refine Ev.pos (by omega) (Ev.pos (by omega) (Ev.pos (by omega) (Ev.cons ei ?_)))
        cases ti
        · exact Ev.neg (by simp) Ev.pure
        · have h := ii.1 rfl
          refine Ev.pos rfl (Ev.pos (by omega) (Ev.cons rfl (Ev.pos (by omega) ?_)))
          by_cases a0 : at_ < 0
          · exact Ev.pos a0 (fin true rfl)
          by_cases a1 : at_ > 268435455
          · exact Ev.neg a0 (Ev.pos a1 (fin true rfl))
          · exact Ev.neg a0 (Ev.neg a1 (fin _ (decide_eq_true (by omega))))

theorem FnExactDeltaBytes : laws_FnExactDeltaBytes.Pure := by
  intro l hl
  have mx : maxLen = 9223372036854775807 := by decide
  refine Ev.at ?_
  unfold laws_FnExactDeltaBytes.f
  obtain ⟨t, ht, hb⟩ := szStepS_ev l 1048576 (by omega) (by omega) (by have := hl.1; omega) (fun s hs => by have := (hl.2 s hs).2.2.2.1; omega)
  refine Ev.bind ht ?_
  by_cases h0 : t < 0
  · exact Ev.pos h0 Ev.pure
  obtain ⟨hb1, hs⟩ := hb (by omega)
  have tl := toStepS_ev l hb1 hs
  have hc : (l.map cStep).length ≤ 1048576 := by simp; omega
  have ok : ∀ s ∈ l.map cStep, s.f3.length ≤ 1048576 := by
    intro p hp
    obtain ⟨q, hq, rfl⟩ := List.mem_map.1 hp
    simpa [cStep] using hs q hq
  generalize l.map cStep = ds at *
  obtain ⟨r, r1, r2, r3⟩ := DeltaBytes_ev ds hc ok
  have el := eqStepS_ev ds hc ok
  have er := eqByteS_ev r (by omega)
  have hz := endS_le 1048576 ds 1 ok
  have hz2 := endS_ge ds 1
  have ms := markStepS_ev ds 1 (by omega) (by omega) (by omega)
  have mr := markByteS_ev r 1 (by omega) (by omega)
  have hr := heldByteS_ev r 1 (by omega) (by omega)
  refine Ev.neg h0 (Ev.bind tl (Ev.bind r1 (Ev.bind tl (Ev.bind r2 (Ev.bind er (Ev.pos rfl (Ev.bind tl (Ev.bind el (Ev.pos rfl (Ev.bind ms (Ev.neg (by omega) (Ev.bind er (Ev.pos rfl (Ev.bind mr (Ev.bind hr (Ev.neg (by omega) (Ev.pos rfl (Ev.bind tl (Ev.bind r2 (Ev.bind er (Ev.pos rfl (Ev.bind hr (Ev.pos rfl Ev.pure)))))))))))))))))))))))

end Go.Proofs.Ytkijlpiiiejjkaa.Pure
