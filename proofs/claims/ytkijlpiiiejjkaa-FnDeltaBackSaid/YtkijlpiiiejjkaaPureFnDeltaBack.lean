/- The pure statement of FnDeltaBack: steps lead back to what they were made of, and bytes to the steps. -/
import Derived.Test.YtkijlpiiiejjkaaPFnDeltaBackx0
import Derived.Test.YtkijlpiiiejjkaaPFnDeltaBackx1
import Derived.Test.YtkijlpiiiejjkaaPFnDeltaBackx10
import Derived.Test.YtkijlpiiiejjkaaPFnDeltaBackx11
import Derived.Test.YtkijlpiiiejjkaaPFnDeltaBackx12
import Derived.Test.YtkijlpiiiejjkaaPFnDeltaBackx2
import Derived.Test.YtkijlpiiiejjkaaPFnDeltaBackx3
import Derived.Test.YtkijlpiiiejjkaaPFnDeltaBackx4
import Derived.Test.YtkijlpiiiejjkaaPFnDeltaBackx5
import Derived.Test.YtkijlpiiiejjkaaPFnDeltaBackx6
import Derived.Test.YtkijlpiiiejjkaaPFnDeltaBackx7
import Derived.Test.YtkijlpiiiejjkaaPFnDeltaBackx8
import Derived.Test.YtkijlpiiiejjkaaPFnDeltaBackx9
import Derived.Laws.BitsLemmas
import Derived.Laws.Bits64b
import Derived.Lib.Bytealg
namespace Go.Proofs.Ytkijlpiiiejjkaa.Pure
open Go.RowKit Go.Proofs.YtkijlpiiiejjkaaW.PrintWords Go.Proofs.YtkijlpiiiejjkaaW.PrintLast Go.Proofs.YtkijlpiiiejjkaaW.PrintMore Go.Proofs.Ytkijlpiiiejjkaa.PFnDeltaBack

theorem u64w (n : Int) (h0 : 0 ≤ n) (h1 : n < 18446744073709551616) : IntKind.u64.wrap n = n := by
  simp [IntKind.wrap, IntKind.signed, IntKind.bits]; omega
theorem i64w (n : Int) (h0 : -9223372036854775808 ≤ n) (h1 : n < 9223372036854775808) : IntKind.i64.wrap n = n := by
  rw [IntKind.wrap_i64]; omega
theorem w64 (n : Int) (h0 : -9223372036854775808 ≤ n) (h1 : n < 9223372036854775808) : wrap64 n = n := by unfold wrap64; omega
theorem up1 (i : Int) (h0 : 0 ≤ i) (h : i < 9223372036854775807) : wrap64 (i + 1) = i + 1 := by unfold wrap64; omega
theorem u64_lo (n : Int) : 0 ≤ IntKind.u64.wrap n := by simp [IntKind.wrap, IntKind.signed, IntKind.bits]; omega
theorem u64_hi (n : Int) : IntKind.u64.wrap n < 18446744073709551616 := by simp [IntKind.wrap, IntKind.signed, IntKind.bits]; omega
theorem u64_wf (x : Int) (h : (Lit.int .u64 x).wf = true) : 0 ≤ x ∧ x < 18446744073709551616 := by
  simp [Lit.wf, IntKind.min, IntKind.max, IntKind.signed, IntKind.bits] at h; omega
theorem and31 (x : Int) (h0 : 0 ≤ x) (h1 : x < 18446744073709551616) : Go.bits .and .u64 x 31 = x % 32 := by
  have := bits_mask .u64 64 (by decide) (fun n a b => u64w n a (by simpa using b)) 5 (by decide) x h0 (by simpa using h1)
  simpa using this
theorem or5 (a c : Int) (h0 : 0 ≤ a) (h1 : a * 32 < 18446744073709551616) (hc0 : 0 ≤ c) (hc : c < 32) : Go.bits .or .u64 (a * 32) c = a * 32 + c := by
  have := bits_join .u64 64 (by decide) (fun n x y => u64w n x (by simpa using y)) 5 (a * 32) c (by omega) (by omega) (by simpa using h1) hc0 (by simpa using hc) (by simp; omega)
  exact this
theorem bt_list (l : List UInt8) (i : Int) : bt ⟨l.toArray⟩ i = ((l.getD i.toNat 0).toNat : Int) := by
  unfold bt
  split
  · rename_i h
    have h' : i.toNat < l.length := by simpa [ByteArray.size] using h
    rw [List.getD_eq_getElem?_getD, List.getElem?_eq_getElem h']
    rfl
  · rename_i h
    have h' : l.length ≤ i.toNat := by simpa [ByteArray.size] using h
    rw [List.getD_eq_getElem?_getD, List.getElem?_eq_none h']; rfl
/-- The alphabet of chapter 1. -/
def alpha : ByteArray := ⟨#[48, 49, 50, 51, 52, 53, 54, 55, 56, 57, 97, 98, 99, 100, 102, 103, 104, 105, 106, 107, 108, 109, 110, 112, 113, 114, 115, 118, 119, 120, 121, 122]⟩
/-- The n-th digit from the right, as its byte. -/
def dg (x : Int) (n : Nat) : Int := bt alpha (x / 2 ^ (5 * n) % 32)
/-- The last n digits. -/
def ds (x : Int) : Nat → List Int
  | 0 => []
  | n + 1 => dg x n :: ds x n
theorem ds_length (x : Int) : ∀ n, (ds x n).length = n
  | 0 => rfl
  | n + 1 => by simp [ds, ds_length x n]
/-- The thirteen bytes. -/
def word (x : Int) : ByteArray := strOfNums (ds x 13)
theorem div_lo (x : Int) (h0 : 0 ≤ x) (n : Nat) : 0 ≤ x / 2 ^ n := Int.ediv_nonneg h0 (by have := Nat.two_pow_pos n; exact_mod_cast Nat.zero_le _)
theorem div_hi (x : Int) (h0 : 0 ≤ x) (n : Nat) : x / 2 ^ n ≤ x := Int.ediv_le_self _ h0
theorem shr5 (x : Int) (n : Nat) (hn : n ≤ 12) : shr .u64 x (5 * n) = x / 2 ^ (5 * n) := by
  unfold shr
  have e : (5 * (n : Int)).toNat = 5 * n := by omega
  rw [e, Nat.min_eq_left (by simp [IntKind.bits]; omega)]
/-- What a byte is worth as a digit; -1: it is none. -/
def dv (c : Int) : Int := Lib.indexByte alpha.data.toList c.toNat.toUInt8
theorem dv_all : ∀ c : Fin 256, -1 ≤ dv (c.val : Int) ∧ dv (c.val : Int) < 32 := by decide +kernel
theorem dv_bounds (c : Int) (h0 : 0 ≤ c) (h1 : c ≤ 255) : -1 ≤ dv c ∧ dv c < 32 := by
  have := dv_all ⟨c.toNat, by omega⟩
  simpa [Int.toNat_of_nonneg h0] using this
/-- The number that thirteen digits tell, from the i-th on. -/
def rwGo (s : ByteArray) : Nat → Int → Nat → Int × Bool
  | 0, x, _ => (x, true)
  | d + 1, x, i => if dv (bt s i) < 0 then (0, false) else if i = 0 ∧ dv (bt s i) > 15 then (0, false) else rwGo s d (x * 32 + dv (bt s i)) (i + 1)
def rw32 (s : ByteArray) : Int × Bool := if s.size = 13 then rwGo s 13 0 0 else (0, false)
/-- The bound that the digits so far keep. -/
def lim (d : Nat) : Int := if d = 13 then 1 else 2 ^ (64 - 5 * d)
theorem lim_all : ∀ d : Fin 13, lim d.val ≤ 18446744073709551616 ∧ 0 < lim d.val ∧ (d.val < 12 → lim (d.val + 1) * 32 = lim d.val) ∧ (d.val = 12 → lim d.val = 16) ∧ lim (d.val + 1) * 32 ≤ 18446744073709551616 := by decide +kernel
theorem word_size (x : Int) : (word x).size = 13 := by unfold word; rw [strOfNums_size, ds_length]

-- Ev
/-- With fuel enough the run answers r. -/
def Ev {α : Type} (f : Nat → Option α) (r : α) : Prop := ∃ K, ∀ k, K ≤ k → f k = some r
theorem Ev.pure {α : Type} {r : α} : Ev (fun _ => some r) r := ⟨0, fun _ _ => rfl⟩
theorem Ev.of {α : Type} {f : Nat → Option α} {r : α} (N : Nat) (h : ∀ k, N ≤ k → f k = some r) : Ev f r := ⟨N, h⟩
theorem Ev.step {α : Type} {f : Nat → Option α} {r : α} (h : Ev (fun k => f (k + 1)) r) : Ev f r := by
  obtain ⟨K, h⟩ := h
  refine ⟨K + 1, fun k hk => ?_⟩
  obtain ⟨m, rfl⟩ : ∃ m, k = m + 1 := ⟨k - 1, by omega⟩
  exact h m (by omega)
theorem Ev.bind {α β : Type} {f : Nat → Option α} {g : Nat → α → Option β} {a : α} {r : β} (h : Ev f a) (h2 : Ev (fun k => g k a) r) : Ev (fun k => (f k).bind (g k)) r := by
  obtain ⟨K, h⟩ := h
  obtain ⟨K2, h2⟩ := h2
  refine ⟨K + K2, fun k hk => ?_⟩
  show (f k).bind (g k) = some r
  rw [h k (by omega)]
  exact h2 k (by omega)
theorem Ev.cons {α β : Type} {x : Option α} {g : Nat → α → Option β} {a : α} {r : β} (h : x = some a) (h2 : Ev (fun k => g k a) r) : Ev (fun k => x.bind (g k)) r := by
  subst h
  exact h2
theorem Ev.pos {α : Type} {c : Prop} [Decidable c] {f g : Nat → Option α} {r : α} (hc : c) (h : Ev f r) : Ev (fun k => if c then f k else g k) r := by
  simpa only [if_pos hc] using h
theorem Ev.neg {α : Type} {c : Prop} [Decidable c] {f g : Nat → Option α} {r : α} (hc : ¬ c) (h : Ev g r) : Ev (fun k => if c then f k else g k) r := by
  simpa only [if_neg hc] using h
theorem Ev.at {α : Type} {f : Nat → Option α} {r : α} (h : Ev f r) : ∃ k, f k = some r := by
  obtain ⟨K, h⟩ := h
  exact ⟨K, h K (Nat.le_refl _)⟩
theorem Ev.uniq {α : Type} {f : Nat → Option α} {r s : α} (h : Ev f r) (h2 : Ev f s) : r = s := by
  obtain ⟨K, h⟩ := h
  obtain ⟨K2, h2⟩ := h2
  have a := h (K + K2) (by omega)
  have b := h2 (K + K2) (by omega)
  rw [a] at b
  exact Option.some.inj b
/-- From the end down. -/
theorem downTo (n : Nat) (P : Nat → Prop) (base : P n) (step : ∀ i, i < n → P (i + 1) → P i) : ∀ i, i ≤ n → P i := by
  intro i hi
  obtain ⟨d, rfl⟩ : ∃ d, i = n - d := ⟨n - i, by omega⟩
  clear hi
  induction d with
  | zero => exact base
  | succ d ih =>
    by_cases h : d < n
    · refine step _ (by omega) ?_
      have e : n - (d + 1) + 1 = n - d := by omega
      rw [e]; exact ih
    · have e : n - (d + 1) = n - d := by omega
      rw [e]; exact ih
theorem upN (i : Nat) (h : i < 1000000000000000) : wrap64 ((i : Int) + 1) = ((i + 1 : Nat) : Int) := by unfold wrap64; omega
theorem dnN (i : Nat) (h : i < 1000000000000000) (h0 : 0 < i) : wrap64 ((i : Int) - 1) = ((i - 1 : Nat) : Int) := by unfold wrap64; omega
/-- A loop that sets place by place leaves the row's picture. -/
theorem setLoop {A B : Type} (L : Nat → List B → Int → Option (List B)) (x : List A) (c : A → B)
    (step : ∀ (i : Nat) (y : List B) (r : List B) (h : i < x.length), y.length = x.length → Ev (fun k => L k (y.set i (c x[i])) ((i + 1 : Nat) : Int)) r → Ev (fun k => L k y (i : Int)) r)
    (stop : ∀ y : List B, y.length = x.length → Ev (fun k => L k y ((x.length : Nat) : Int)) y) :
    ∀ y : List B, y.length = x.length → Ev (fun k => L k y 0) (x.map c) := by
  have main := downTo x.length (fun i => ∀ y : List B, y.length = x.length → y.take i = (x.map c).take i → Ev (fun k => L k y (i : Int)) (x.map c)) ?_ ?_
  · intro y hy
    exact main 0 (by omega) y hy (by simp)
  · intro y hy he
    rw [List.take_of_length_le (by omega), List.take_of_length_le (by simp)] at he
    have := stop y hy
    rw [he] at this
    rw [he] at hy
    exact he ▸ stop y (by rw [he]; exact hy)
  · intro i hi ih y hy he
    refine step i y _ hi hy (ih _ (by simp [hy]) ?_)
    rw [List.take_add_one, List.take_add_one, List.take_set_of_le (by omega), he, List.getElem?_set_self (by omega)]
    simp [List.getElem?_eq_getElem hi]
theorem countLoop {α : Type} (L : Nat → Int → Option α) (n : Nat) (r : α) (step : ∀ i : Nat, i < n → Ev (fun k => L k ((i + 1 : Nat) : Int)) r → Ev (fun k => L k (i : Int)) r) (stop : Ev (fun k => L k ((n : Nat) : Int)) r) : Ev (fun k => L k 0) r :=
  downTo n (fun i => Ev (fun k => L k (i : Int)) r) stop (fun i hi h => step i hi h) 0 (by omega)

-- EvP
/-- With fuel enough the run answers something that is P. -/
def EvP {α : Type} (P : α → Prop) (f : Nat → Option α) : Prop := ∃ r, P r ∧ Ev f r
theorem EvP.step {α : Type} {P : α → Prop} {f : Nat → Option α} (h : EvP P (fun k => f (k + 1))) : EvP P f := h.imp fun _ h => ⟨h.1, Ev.step h.2⟩
theorem EvP.pos {α : Type} {P : α → Prop} {c : Prop} [Decidable c] {f g : Nat → Option α} (hc : c) (h : EvP P f) : EvP P (fun k => if c then f k else g k) := h.imp fun _ h => ⟨h.1, Ev.pos hc h.2⟩
theorem EvP.neg {α : Type} {P : α → Prop} {c : Prop} [Decidable c] {f g : Nat → Option α} (hc : ¬ c) (h : EvP P g) : EvP P (fun k => if c then f k else g k) := h.imp fun _ h => ⟨h.1, Ev.neg hc h.2⟩
theorem EvP.cons {α β : Type} {P : β → Prop} {x : Option α} {g : Nat → α → Option β} {a : α} (h : x = some a) (h2 : EvP P (fun k => g k a)) : EvP P (fun k => x.bind (g k)) := h2.imp fun _ h2 => ⟨h2.1, Ev.cons h h2.2⟩
theorem EvP.bind {α β : Type} {P : β → Prop} {f : Nat → Option α} {g : Nat → α → Option β} {a : α} (h : Ev f a) (h2 : EvP P (fun k => g k a)) : EvP P (fun k => (f k).bind (g k)) := h2.imp fun _ h2 => ⟨h2.1, Ev.bind h h2.2⟩
theorem EvP.pure {α : Type} {P : α → Prop} {r : α} (h : P r) : EvP P (fun _ => some r) := ⟨r, h, Ev.pure⟩

-- MakeDS
theorem rdN (l : List Int) (i : Nat) : rd l (i : Int) = l.getD i 0 := by unfold rd; simp
theorem addN (a b : Nat) (h : a + b < 1000000000000000) : wrap64 ((a : Int) + (b : Int)) = ((a + b : Nat) : Int) := by unfold wrap64; omega
/-- What the steps so far keep. -/
def StepsIn (n : Nat) (ds : List S62) : Prop := ds.length ≤ n ∧ ∀ d ∈ ds, d.f3.length ≤ n
theorem rd62 (l : List S62) (i : Nat) (h : i < l.length) : rd_T62 l (i : Int) = l[i] := by unfold rd_T62; simp [List.getD_eq_getElem?_getD, List.getElem?_eq_getElem h]
theorem StepsIn.snoc {n : Nat} {ds : List S62} (h : StepsIn n ds) (d : S62) (m : Nat) (hm : n < m) (hd : d.f3.length ≤ m) : StepsIn m (ds ++ [d]) := by
  refine ⟨by rw [List.length_append]; have := h.1; simp; omega, fun e he => ?_⟩
  rcases List.mem_append.1 he with he | he
  · have := h.2 e he; omega
  · rw [List.mem_singleton.1 he]; exact hd
theorem StepsIn.set {n : Nat} {ds : List S62} (h : StepsIn n ds) (i : Nat) (d : S62) (m : Nat) (hm : n ≤ m) (hd : d.f3.length ≤ m) : StepsIn m (ds.set i d) := by
  refine ⟨by rw [List.length_set]; have := h.1; omega, fun e he => ?_⟩
  rcases List.mem_or_eq_of_mem_set he with he | rfl
  · have := h.2 e he; omega
  · exact hd

-- MakeBack
/-- best bytes of x at fr are those of y at at_. -/
def Mat (x y : List Int) (at_ fr best : Nat) : Prop := fr + best ≤ x.length ∧ (x.drop fr).take best = (y.drop at_).take best
theorem Mat.zero {x y : List Int} {at_ p : Nat} (h : p ≤ x.length) : Mat x y at_ p 0 := ⟨by omega, by simp⟩
theorem Mat.succ {x y : List Int} {at_ p n : Nat} (h : Mat x y at_ p n) (h1 : p + n < x.length) (h2 : at_ + n < y.length) (h3 : rd x ((p + n : Nat) : Int) = rd y ((at_ + n : Nat) : Int)) : Mat x y at_ p (n + 1) := by
  refine ⟨by omega, ?_⟩
  rw [rdN, rdN] at h3
  rw [List.getD_eq_getElem?_getD, List.getD_eq_getElem?_getD, List.getElem?_eq_getElem h1, List.getElem?_eq_getElem h2] at h3
  simp only [Option.getD_some] at h3
  rw [List.take_add_one, List.take_add_one, h.2, List.getElem?_drop, List.getElem?_drop, List.getElem?_eq_getElem h1, List.getElem?_eq_getElem h2, h3]
/-- The bytes that a step gives, and steps. -/
def stepB (x : List Int) (s : S62) : List Int := if s.f0 = 1 then (x.drop s.f1.toNat).take s.f2.toNat else s.f3
def play (x : List Int) (ds : List S62) : List Int := ds.flatMap (stepB x)
/-- A step that can be taken. -/
def StepG (x : List Int) (s : S62) : Prop := (s.f0 = 1 ∧ 0 ≤ s.f1 ∧ 1 ≤ s.f2 ∧ s.f1 + s.f2 ≤ x.length ∧ s.f3 = []) ∨ (s.f0 = 2 ∧ s.f1 = 0 ∧ s.f2 = 0 ∧ 0 < s.f3.length)
def InD (x y : List Int) (j : Nat) (out : List S62) : Prop := StepsIn j out ∧ (∀ s ∈ out, StepG x s) ∧ play x out = y.take j
theorem play_snoc (x : List Int) (ds : List S62) (s : S62) : play x (ds ++ [s]) = play x ds ++ stepB x s := by simp [play]
theorem take_next (y : List Int) (j : Nat) (h : j < y.length) : y.take (j + 1) = y.take j ++ [rd y (j : Int)] := by
  rw [List.take_add_one, rdN, List.getD_eq_getElem?_getD, List.getElem?_eq_getElem h]; rfl
theorem InD.copy {x y : List Int} {j fr best : Nat} {out : List S62} (h : InD x y j out) (hm : Mat x y j fr best) (h1 : 1 ≤ best) (_h2 : j + best ≤ y.length) : InD x y (j + best) (out ++ [⟨1, (fr : Int), (best : Int), []⟩]) := by
  refine ⟨h.1.snoc _ _ (by omega) (by simp), fun s hs => ?_, ?_⟩
  · rcases List.mem_append.1 hs with hs | hs
    · exact h.2.1 s hs
    · rw [List.mem_singleton.1 hs]
      have := hm.1
      exact .inl ⟨rfl, by show 0 ≤ (fr : Int); omega, by show 1 ≤ (best : Int); omega, by show (fr : Int) + (best : Int) ≤ x.length; omega, rfl⟩
  · rw [play_snoc, h.2.2, List.take_add, ← hm.2]
    rfl
theorem InD.add {x y : List Int} {j : Nat} {out : List S62} (h : InD x y j out) (hj : j < y.length) : InD x y (j + 1) (out ++ [⟨2, 0, 0, [rd y (j : Int)]⟩]) := by
  refine ⟨h.1.snoc _ _ (by omega) (by simp), fun s hs => ?_, ?_⟩
  · rcases List.mem_append.1 hs with hs | hs
    · exact h.2.1 s hs
    · rw [List.mem_singleton.1 hs]
      exact .inr ⟨rfl, rfl, rfl, by simp⟩
  · rw [play_snoc, h.2.2, take_next y j hj]
    rfl
theorem InD.put {x y : List Int} {j : Nat} {out : List S62} (h : InD x y j out) (hj : j < y.length) (hl : out.length - 1 < out.length) (hk : (out[out.length - 1]).f0 = 2) :
    InD x y (j + 1) (out.set (out.length - 1) ⟨(out[out.length - 1]).f0, (out[out.length - 1]).f1, (out[out.length - 1]).f2, (out[out.length - 1]).f3 ++ [rd y (j : Int)]⟩) := by
  obtain ⟨init, l, rfl⟩ : ∃ init l, out = init ++ [l] := ⟨out.dropLast, out.getLast (by intro e; subst e; simp at hl), (List.dropLast_concat_getLast _).symm⟩
  have e1 : (init ++ [l]).length - 1 = init.length := by simp
  have e2 : (init ++ [l])[(init ++ [l]).length - 1] = l := by simp
  rw [e2] at hk ⊢
  rw [e1]
  have e3 : ∀ v : S62, (init ++ [l]).set init.length v = init ++ [v] := fun v => by simp
  rw [e3]
  obtain ⟨⟨h1, h2⟩, h3, h4⟩ := h
  have hlm := h2 l (by simp)
  rw [List.length_append, List.length_singleton] at h1
  refine ⟨⟨by rw [List.length_append, List.length_singleton]; omega, fun s hs => ?_⟩, fun s hs => ?_, ?_⟩
  · rcases List.mem_append.1 hs with hs | hs
    · have := h2 s (List.mem_append_left _ hs); omega
    · rw [List.mem_singleton.1 hs]
      show (l.f3 ++ [rd y (j : Int)]).length ≤ j + 1
      rw [List.length_append, List.length_singleton]; omega
  · rcases List.mem_append.1 hs with hs | hs
    · exact h3 s (List.mem_append_left _ hs)
    · rw [List.mem_singleton.1 hs]
      rcases h3 l (by simp) with ⟨k, _⟩ | ⟨k, a, n, d⟩
      · exact absurd (k.symm.trans hk) (by decide)
      · exact .inr ⟨k, a, n, by show 0 < (l.f3 ++ [rd y (j : Int)]).length; rw [List.length_append]; omega⟩
  · rw [play_snoc] at h4 ⊢
    rw [take_next y j hj, ← h4]
    have hb : ¬ l.f0 = 1 := by rw [hk]; decide
    unfold stepB
    simp only [if_neg hb, List.append_assoc]
/-- The search, and that what it finds is alike. -/
theorem find_back (x y : List Int) (hx : x.length ≤ 3000) (hy : y.length ≤ 3000) (at_ : Nat) (hat : at_ ≤ y.length) :
    ∃ fr best : Nat, (best ≤ 1000 ∧ Mat x y at_ fr best) ∧ at_ + best ≤ y.length ∧ Ev (fun k => spec_l14Find.f k x y (at_ : Int)) ((fr : Int), (best : Int)) ∧
      ∀ out r, Ev (fun k => impl_MakeDelta.l1 k x y out (at_ : Int) (best : Int) (fr : Int) (x.length : Int) (x.length : Int)) r → Ev (fun k => impl_MakeDelta.l1 k x y out (at_ : Int) 0 0 (x.length : Int) 0) r := by
  unfold spec_l14Find.f
  have key := downTo x.length (fun p => ∀ b0 f0 : Nat, (b0 ≤ 1000 ∧ Mat x y at_ f0 b0) → at_ + b0 ≤ y.length → ∃ fr best : Nat, (best ≤ 1000 ∧ Mat x y at_ fr best) ∧ at_ + best ≤ y.length ∧ Ev (fun k => spec_l14Find.l0 k x y (at_ : Int) (b0 : Int) (f0 : Int) (p : Int)) ((fr : Int), (best : Int)) ∧
      ∀ out r, Ev (fun k => impl_MakeDelta.l1 k x y out (at_ : Int) (best : Int) (fr : Int) (x.length : Int) (x.length : Int)) r → Ev (fun k => impl_MakeDelta.l1 k x y out (at_ : Int) (b0 : Int) (f0 : Int) (x.length : Int) (p : Int)) r) ?_ ?_ 0 (by omega)
  · exact key 0 0 ⟨by omega, Mat.zero (by omega)⟩ (by omega)
  · intro b0 f0 h0 h1
    refine ⟨f0, b0, h0, h1, Ev.step ?_, fun out r h => h⟩
    simp only [spec_l14Find.l0]
    exact Ev.neg (by omega) Ev.pure
  · intro p hp ih b0 f0 h0 h1
    have stop : ∀ n : Nat, (n ≤ 1000 ∧ Mat x y at_ p n) → at_ + n ≤ y.length → ∃ fr best : Nat, (best ≤ 1000 ∧ Mat x y at_ fr best) ∧ at_ + best ≤ y.length ∧
        Ev (fun k => if (n : Int) > (b0 : Int) then spec_l14Find.l0 k x y (at_ : Int) (n : Int) (p : Int) (wrap64 ((p : Int) + 1)) else spec_l14Find.l0 k x y (at_ : Int) (b0 : Int) (f0 : Int) (wrap64 ((p : Int) + 1))) ((fr : Int), (best : Int)) ∧
        ∀ out r, Ev (fun k => impl_MakeDelta.l1 k x y out (at_ : Int) (best : Int) (fr : Int) (x.length : Int) (x.length : Int)) r →
          Ev (fun k => if (n : Int) > (b0 : Int) then impl_MakeDelta.l1 k x y out (at_ : Int) (n : Int) (p : Int) (x.length : Int) (wrap64 ((p : Int) + 1)) else impl_MakeDelta.l1 k x y out (at_ : Int) (b0 : Int) (f0 : Int) (x.length : Int) (wrap64 ((p : Int) + 1))) r := by
      intro n hn hn2
      rw [upN p (by omega)]
      by_cases c : (n : Int) > (b0 : Int)
      · obtain ⟨fr, best, g0, g1, g2, g3⟩ := ih n p hn hn2
        exact ⟨fr, best, g0, g1, Ev.pos c g2, fun out r h => Ev.pos c (g3 out r h)⟩
      · obtain ⟨fr, best, g0, g1, g2, g3⟩ := ih b0 f0 h0 h1
        exact ⟨fr, best, g0, g1, Ev.neg c g2, fun out r h => Ev.neg c (g3 out r h)⟩
    have inner := downTo 1000 (fun n => Mat x y at_ p n → at_ + n ≤ y.length → ∃ fr best : Nat, (best ≤ 1000 ∧ Mat x y at_ fr best) ∧ at_ + best ≤ y.length ∧ Ev (fun k => spec_l14Find.l1 k x y (at_ : Int) (b0 : Int) (f0 : Int) (p : Int) (n : Int)) ((fr : Int), (best : Int)) ∧
      ∀ out r, Ev (fun k => impl_MakeDelta.l1 k x y out (at_ : Int) (best : Int) (fr : Int) (x.length : Int) (x.length : Int)) r → Ev (fun k => impl_MakeDelta.l2 k x y out (at_ : Int) (b0 : Int) (f0 : Int) (p : Int) (n : Int) (x.length : Int) (p : Int)) r) ?_ ?_ 0 (by omega)
    · obtain ⟨fr, best, g0, g1, g2, g3⟩ := inner (Mat.zero (by omega)) (by omega)
      refine ⟨fr, best, g0, g1, Ev.step ?_, fun out r h => Ev.step ?_⟩
      · simp only [spec_l14Find.l0]
        exact Ev.pos (by omega) g2
      · simp only [impl_MakeDelta.l1]
        exact Ev.pos (by omega) (g3 out r h)
    · intro hM hn
      obtain ⟨fr, best, g0, g1, g2, g3⟩ := stop 1000 ⟨by omega, hM⟩ hn
      refine ⟨fr, best, g0, g1, Ev.step ?_, fun out r h => Ev.step ?_⟩
      · simp only [spec_l14Find.l1]
        exact Ev.neg (by omega) g2
      · simp only [impl_MakeDelta.l2]
        exact Ev.neg (by omega) (g3 out r h)
    · intro n hn ihn hM hn2
      obtain ⟨fr, best, g0, g1, g2, g3⟩ := stop n ⟨by omega, hM⟩ hn2
      have a1 := addN p n (by omega)
      have a2 := addN at_ n (by omega)
      by_cases c1 : p + n < x.length
      · by_cases c2 : at_ + n < y.length
        · by_cases c3 : rd x ((p + n : Nat) : Int) = rd y ((at_ + n : Nat) : Int)
          · obtain ⟨fr, best, g0, g1, g2, g3⟩ := ihn (hM.succ c1 c2 c3) (by omega)
            refine ⟨fr, best, g0, g1, Ev.step ?_, fun out r h => Ev.step ?_⟩
            · simp only [spec_l14Find.l1, a1, a2, upN n (by omega)]
              exact Ev.pos (by omega) (Ev.pos (by omega) (Ev.pos (by omega) (Ev.pos (by omega) (Ev.pos (by omega) (Ev.pos c3 g2)))))
            · simp only [impl_MakeDelta.l2, a1, a2, upN n (by omega)]
              exact Ev.pos (by omega) (Ev.pos (by omega) (Ev.pos (by omega) (Ev.pos (by omega) (Ev.pos (by omega) (Ev.pos c3 (g3 out r h))))))
          · refine ⟨fr, best, g0, g1, Ev.step ?_, fun out r h => Ev.step ?_⟩
            · simp only [spec_l14Find.l1, a1, a2]
              exact Ev.pos (by omega) (Ev.pos (by omega) (Ev.pos (by omega) (Ev.pos (by omega) (Ev.pos (by omega) (Ev.neg c3 g2)))))
            · simp only [impl_MakeDelta.l2, a1, a2]
              exact Ev.pos (by omega) (Ev.pos (by omega) (Ev.pos (by omega) (Ev.pos (by omega) (Ev.pos (by omega) (Ev.neg c3 (g3 out r h))))))
        · refine ⟨fr, best, g0, g1, Ev.step ?_, fun out r h => Ev.step ?_⟩
          · simp only [spec_l14Find.l1, a1, a2]
            exact Ev.pos (by omega) (Ev.pos (by omega) (Ev.neg (by omega) g2))
          · simp only [impl_MakeDelta.l2, a1, a2]
            exact Ev.pos (by omega) (Ev.pos (by omega) (Ev.neg (by omega) (g3 out r h)))
      · refine ⟨fr, best, g0, g1, Ev.step ?_, fun out r h => Ev.step ?_⟩
        · simp only [spec_l14Find.l1, a1, a2]
          exact Ev.pos (by omega) (Ev.neg (by omega) g2)
        · simp only [impl_MakeDelta.l2, a1, a2]
          exact Ev.pos (by omega) (Ev.neg (by omega) (g3 out r h))
set_option maxHeartbeats 400000 in
theorem MakeDelta_back (x y : List Int) (hx' : x.length ≤ 3000) (hy' : y.length ≤ 3000) : ∃ r, Ev (fun k => spec_MakeDelta.f k x y) r ∧ Ev (fun k => impl_MakeDelta.f k x y) r ∧ InD x y y.length r := by
  unfold spec_MakeDelta.f impl_MakeDelta.f
  have hx : ¬ (x.length : Int) > 3000 := by omega
  have hy : ¬ (y.length : Int) > 3000 := by omega
  have key := downTo y.length (fun i => ∀ j : Nat, i ≤ j → j ≤ y.length → ∀ out : List S62, InD x y j out → ∃ r, Ev (fun k => spec_MakeDelta.l0 k x y out (j : Int)) r ∧ Ev (fun k => impl_MakeDelta.l0 k x y out (j : Int)) r ∧ InD x y y.length r) ?_ ?_ 0 (by omega)
  · obtain ⟨r, h1, h2, h3⟩ := key 0 (by omega) (by omega) [] ⟨⟨by simp, by simp⟩, by simp, by simp [play]⟩
    refine ⟨r, Ev.cons rfl (Ev.neg hx (Ev.step ?_)), Ev.neg hx (Ev.step ?_), h3⟩
    · simp only [spec_MakeDelta.j0]
      exact Ev.neg (by rw [decide_eq_false hy]; simp) h1
    · simp only [impl_MakeDelta.j0]
      exact Ev.neg (by rw [decide_eq_false hy]; simp) h2
  · intro j h0 h1 out ho
    have hl := ho.1.1
    obtain rfl : j = y.length := by omega
    refine ⟨out, Ev.step ?_, Ev.step ?_, ho⟩
    · simp only [spec_MakeDelta.l0]
      exact Ev.neg (by omega) (Ev.neg (by omega) Ev.pure)
    · simp only [impl_MakeDelta.l0]
      exact Ev.neg (by omega) (Ev.neg (by omega) Ev.pure)
  · intro i hi ih j h0 h1 out ho
    by_cases hj : j = y.length
    · have hl := ho.1.1
      subst hj
      refine ⟨out, Ev.step ?_, Ev.step ?_, ho⟩
      · simp only [spec_MakeDelta.l0]
        exact Ev.neg (by omega) (Ev.neg (by omega) Ev.pure)
      · simp only [impl_MakeDelta.l0]
        exact Ev.neg (by omega) (Ev.neg (by omega) Ev.pure)
    by_cases hij : i < j
    · exact ih j (by omega) h1 out ho
    have hj2 : j < y.length := by omega
    have hl := ho.1.1
    obtain ⟨fr, best, ⟨g0, gm⟩, g1, g2, g3⟩ := find_back x y (by omega) (by omega) j (by omega)
    by_cases c1 : best ≥ 6
    · obtain ⟨r, r1, r2, r3⟩ := ih (j + best) (by omega) (by omega) (out ++ [⟨1, (fr : Int), (best : Int), []⟩]) (ho.copy gm (by omega) g1)
      refine ⟨r, Ev.step ?_, Ev.step ?_, r3⟩
      · simp only [spec_MakeDelta.l0]
        refine Ev.pos (by omega) (Ev.bind g2 (Ev.pos (by simp only; omega) (Ev.pos (by omega) ?_)))
        simp only [addN j best (by omega)]
        exact r1
      · simp only [impl_MakeDelta.l0]
        refine Ev.pos (by omega) (g3 out r (Ev.step ?_))
        simp only [impl_MakeDelta.l1, addN j best (by omega)]
        exact Ev.neg (by omega) (Ev.pos (by omega) (Ev.pos (by omega) r2))
    · have add : ∃ r, Ev (fun k => spec_MakeDelta.l0 k x y (out ++ [⟨2, 0, 0, [rd y (j : Int)]⟩]) ((j + 1 : Nat) : Int)) r ∧ Ev (fun k => impl_MakeDelta.l0 k x y (out ++ [⟨2, 0, 0, [rd y (j : Int)]⟩]) ((j + 1 : Nat) : Int)) r ∧ InD x y y.length r :=
        ih (j + 1) (by omega) (by omega) _ (ho.add hj2)
      have grown : ∀ r, Ev (fun k => spec_MakeDelta.l0 k x y (out ++ [⟨2, 0, 0, [rd y (j : Int)]⟩]) ((j + 1 : Nat) : Int)) r →
          (wrap64 ((wrap64 ((out.length : Int) - 1)) + 1)) = ((out.length : Nat) : Int) := by
        intro _ _
        unfold wrap64
        omega
      have e1 : wrap64 ((wrap64 ((out.length : Int) - 1)) + 1) = ((out.length : Nat) : Int) := by unfold wrap64; omega
      have hset : ∀ v : S62, (out ++ [(⟨2, 0, 0, []⟩ : S62)]).set out.length v = out ++ [v] := fun v => by simp
      have hrd : rd_T62 (out ++ [(⟨2, 0, 0, []⟩ : S62)]) ((out.length : Nat) : Int) = ⟨2, 0, 0, []⟩ := by
        rw [rd62 _ _ (by simp)]
        simp
      have hen : (((out.length : Nat) : Int)).toNat = out.length := by omega
      obtain ⟨ra, ra1, ra2, ra3⟩ := add
      by_cases c2 : out.length = 0
      · refine ⟨ra, Ev.step ?_, Ev.step ?_, ra3⟩
        · simp only [spec_MakeDelta.l0, e1, upN j (by omega), hen]
          refine Ev.pos (by omega) (Ev.bind g2 (Ev.neg (by simp only; omega) (Ev.pos (by unfold wrap64; omega) (Ev.pos (by omega) ?_))))
          refine Ev.cons (a := out ++ [(⟨2, 0, 0, []⟩ : S62)]) rfl ?_
          simp only [hrd, hset, List.nil_append]
          exact Ev.pos (by omega) (Ev.pos (by simp; omega) (Ev.pos (by omega) (Ev.pos (by simp) ra1)))
        · simp only [impl_MakeDelta.l0]
          refine Ev.pos (by omega) (g3 out ra (Ev.step ?_))
          simp only [impl_MakeDelta.l1, upN j (by omega)]
          exact Ev.neg (by omega) (Ev.neg (by omega) (Ev.neg (by omega) (Ev.pos (by omega) (Ev.pos (by omega) (Ev.pos (by omega) ra2)))))
      · have e0 : wrap64 ((out.length : Int) - 1) = ((out.length - 1 : Nat) : Int) := dnN out.length (by omega) (by omega)
        have hlast : out.length - 1 < out.length := by omega
        have hr := rd62 out (out.length - 1) hlast
        have hm : (out[out.length - 1]).f3.length ≤ j := ho.1.2 _ (List.getElem_mem hlast)
        by_cases c3 : (out[out.length - 1]).f0 = 2
        · obtain ⟨r, r1, r2, r3⟩ := ih (j + 1) (by omega) (by omega) (out.set (out.length - 1) ⟨(out[out.length - 1]).f0, (out[out.length - 1]).f1, (out[out.length - 1]).f2, (out[out.length - 1]).f3 ++ [rd y (j : Int)]⟩) (ho.put hj2 hlast c3)
          have hn2 : (((out.length - 1 : Nat) : Int)).toNat = out.length - 1 := by omega
          refine ⟨r, Ev.step ?_, Ev.step ?_, r3⟩
          · simp only [spec_MakeDelta.l0, e0, hr, upN j (by omega), hn2]
            exact Ev.pos (by omega) (Ev.bind g2 (Ev.neg (by simp only; omega) (Ev.neg (by omega) (Ev.pos (by omega) (Ev.pos (by omega) (Ev.pos c3 (Ev.pos (by omega) (Ev.pos (by omega) r1))))))))
          · simp only [impl_MakeDelta.l0]
            refine Ev.pos (by omega) (g3 out r (Ev.step ?_))
            simp only [impl_MakeDelta.l1, e0, hr, upN j (by omega), hn2]
            exact Ev.neg (by omega) (Ev.neg (by omega) (Ev.pos (by omega) (Ev.pos (by omega) (Ev.pos (by omega) (Ev.pos c3 (Ev.pos (by omega) (Ev.pos (by omega) (Ev.pos (by omega) r2))))))))
        · have e2 : wrap64 (((out.length - 1 : Nat) : Int) + 1) = ((out.length : Nat) : Int) := by rw [← e0]; exact e1
          refine ⟨ra, Ev.step ?_, Ev.step ?_, ra3⟩
          · simp only [spec_MakeDelta.l0, e0, e2, hr, upN j (by omega), hen, if_neg c3]
            clear c3 hr hm e0 e1 e2 grown
            refine Ev.pos (by omega) (Ev.bind g2 (Ev.neg (by simp only; omega) (Ev.neg (by omega) (Ev.pos (by omega) (Ev.pos (by omega) (Ev.pos (by omega) ?_))))))
            refine Ev.cons (a := out ++ [(⟨2, 0, 0, []⟩ : S62)]) rfl ?_
            simp only [hrd, hset, List.nil_append]
            exact Ev.pos (by omega) (Ev.pos (by simp; omega) (Ev.pos (by omega) (Ev.pos (by simp) ra1)))
          · simp only [impl_MakeDelta.l0]
            refine Ev.pos (by omega) (g3 out ra (Ev.step ?_))
            simp only [impl_MakeDelta.l1, e0, hr, upN j (by omega), if_neg c3]
            clear c3 hr hm e0 e1 e2 grown
            exact Ev.neg (by omega) (Ev.neg (by omega) (Ev.pos (by omega) (Ev.pos (by omega) (Ev.pos (by omega) (Ev.pos (by omega) (Ev.pos (by omega) (Ev.pos (by omega) ra2)))))))

-- StepS
theorem specStep (a b c : Int) (l : List Int) : ∃ t, spec_l14StepOk.f a b c l = some t ∧ (t = true ↔ ((a = 1 ∧ 1 ≤ c ∧ c ≤ 268435455 ∧ 0 ≤ b ∧ b ≤ 268435455 ∧ l.length = 0) ∨ (a = 2 ∧ b = 0 ∧ c = 0 ∧ 0 < l.length))) := by
  unfold spec_l14StepOk.f
  repeat' split
  all_goals refine ⟨_, rfl, ?_⟩
  all_goals simp only [beq_iff_eq, decide_eq_true_eq, Bool.false_eq_true, false_iff]
  all_goals omega

-- StepOk
theorem implStep (a b c : Int) (l : List Int) : ∃ t, impl_stepOk.f a b c l = some t ∧ (t = true ↔ ((a = 1 ∧ 1 ≤ c ∧ l.length = 0) ∨ (a = 2 ∧ b = 0 ∧ c = 0 ∧ 1 ≤ l.length))) := by
  unfold impl_stepOk.f
  repeat' split
  all_goals refine ⟨_, rfl, ?_⟩
  all_goals simp only [beq_iff_eq, Bool.false_eq_true, false_iff, true_iff]
  all_goals omega

-- PlayD
/-- Steps that can be taken give their bytes. -/
theorem apply_play (x : List Int) (hx : x.length ≤ 1048576) (ds : List S62) (hd : ds.length ≤ 10000) (hg : ∀ s ∈ ds, StepG x s) (hl : (play x ds).length ≤ 1000000) : Ev (fun k => impl_ApplyDelta.f k x ds) (play x ds, true) := by
  unfold impl_ApplyDelta.f
  refine Ev.neg (by omega) ?_
  have key := downTo ds.length (fun i => ∀ out : List Int, out.length + (play x (ds.drop i)).length ≤ 1000000 → Ev (fun k => impl_ApplyDelta.l0 k x out ds (ds.length : Int) (i : Int)) (out ++ play x (ds.drop i), true)) ?_ ?_ 0 (by omega) [] (by simpa using hl)
  · simpa using key
  · intro out ho
    refine Ev.step ?_
    simp only [impl_ApplyDelta.l0, List.drop_length]
    exact Ev.neg (by omega) (by simpa [play] using Ev.pure)
  · intro i hi ih out ho
    have hs := hg _ (List.getElem_mem hi)
    have hdrop : play x (ds.drop i) = stepB x ds[i] ++ play x (ds.drop (i + 1)) := by rw [List.drop_eq_getElem_cons hi]; simp only [play, List.flatMap_cons]
    rw [hdrop] at ho ⊢
    rw [List.length_append] at ho
    obtain ⟨ti, ei, ii⟩ := implStep (ds[i]).f0 (ds[i]).f1 (ds[i]).f2 (ds[i]).f3
    have up : Unit → wrap64 ((i : Int) + 1) = ((i + 1 : Nat) : Int) := fun _ => upN i (by omega)
    have ih := ih (out ++ stepB x ds[i]) (by rw [List.length_append]; omega)
    rw [List.append_assoc] at ih
    unfold stepB at ih ho ⊢
    generalize hk : (ds[i]).f0 = kind at *
    generalize ha : (ds[i]).f1 = at_ at *
    generalize hn : (ds[i]).f2 = n at *
    generalize hdt : (ds[i]).f3 = dt at *
    unfold StepG at hs
    rw [hk, ha, hn, hdt] at hs
    refine Ev.step ?_
    simp only [impl_ApplyDelta.l0, rd62 ds i hi, hk, ha, hn, hdt]
    rcases hs with ⟨k1, a0, n1, an, d0⟩ | ⟨k1, a0, n0, d0⟩
    · have ez : ti = true := ii.2 (Or.inl ⟨k1, n1, by rw [d0]; rfl⟩)
      subst ez
      clear ii
      rw [if_pos k1] at ih ho ⊢
      have w1 : Unit → wrap64 (at_ + n) = at_ + n := fun _ => w64 _ (by omega) (by omega)
      have w2 : Unit → wrap64 ((x.length : Int) - at_) = x.length - at_ := fun _ => w64 _ (by omega) (by omega)
      have f2 : decide (n > (x.length : Int) - at_) = false := decide_eq_false (by omega)
      have et : (x.take (at_ + n).toNat).drop at_.toNat = (x.drop at_.toNat).take n.toNat := by
        rw [List.drop_take]
        congr 1
        omega
      simp only [w2 (), f2]
      refine Ev.pos (by omega) (Ev.pos (by omega) (Ev.pos (by omega) (Ev.cons ei (Ev.pos rfl (Ev.neg (by omega) (Ev.neg (by omega) (Ev.neg (by omega) (Ev.step ?_))))))))
      simp only [impl_ApplyDelta.j1, w1 (), up (), et]
      refine Ev.neg (by simp) (Ev.pos (by omega) (Ev.pos (by omega) (Ev.pos (by omega) (Ev.pos (by omega) (Ev.cons rfl (Ev.neg ?_ ih))))))
      rw [List.length_append]
      omega
    · have ez : ti = true := ii.2 (Or.inr ⟨k1, a0, n0, d0⟩)
      subst ez
      clear ii
      have hne : ¬ kind = 1 := by omega
      rw [if_neg hne] at ih ho ⊢
      simp only [up ()]
      refine Ev.pos (by omega) (Ev.pos (by omega) (Ev.pos (by omega) (Ev.cons ei (Ev.pos rfl (Ev.pos k1 (Ev.pos (by omega) (Ev.cons rfl (Ev.neg ?_ ih))))))))
      rw [List.length_append]
      omega

-- ReadNum
/-- The bytes of a number in sevens: all but the last carry the eighth bit. -/
def Dig : List Int → Prop
  | [] => False
  | [c] => 0 ≤ c ∧ c < 128
  | c :: d :: t => 128 ≤ c ∧ c < 256 ∧ Dig (d :: t)
def dval : List Int → Int
  | [] => 0
  | c :: t => c % 128 + 128 * dval t
def lastNZ : List Int → Bool
  | [] => false
  | [c] => !(c == 0)
  | _ :: d :: t => lastNZ (d :: t)
def mnD (ds : List Int) : Bool := lastNZ ds || ds.length == 1
theorem Dig.pos : ∀ {ds : List Int}, Dig ds → 0 < ds.length
  | [], h => h.elim
  | _ :: _, _ => by simp
theorem dval_lt : ∀ (ds : List Int), Dig ds → 0 ≤ dval ds ∧ dval ds < 128 ^ ds.length
  | [], h => h.elim
  | [c], h => by
    obtain ⟨h0, h1⟩ : 0 ≤ c ∧ c < 128 := h
    simp only [dval, List.length_singleton, Int.pow_one]
    omega
  | c :: d :: t, h => by
    obtain ⟨h0, h1, h2⟩ : 128 ≤ c ∧ c < 256 ∧ Dig (d :: t) := h
    have := dval_lt (d :: t) h2
    have e : (128 : Int) ^ (c :: d :: t).length = 128 ^ (d :: t).length * 128 := by rw [List.length_cons, Int.pow_succ]
    rw [e]
    rw [show dval (c :: d :: t) = c % 128 + 128 * dval (d :: t) from rfl]
    omega
theorem dval_four (ds : List Int) (h : Dig ds) (hl : ds.length ≤ 4) : 0 ≤ dval ds ∧ dval ds < 268435456 := by
  have h1 := dval_lt ds h
  have h2 : (128 : Int) ^ ds.length ≤ 128 ^ 4 := by
    have := Nat.pow_le_pow_right (n := 128) (by omega) hl
    exact_mod_cast this
  rw [show (128 : Int) ^ 4 = 268435456 by decide] at h2
  omega
theorem lastNZ_pos : ∀ (ds : List Int), Dig ds → lastNZ ds = true → 1 ≤ dval ds
  | [], h, _ => h.elim
  | [c], h, e => by
    obtain ⟨h0, h1⟩ : 0 ≤ c ∧ c < 128 := h
    simp [lastNZ] at e
    simp only [dval]
    omega
  | c :: d :: t, h, e => by
    obtain ⟨h0, h1, h2⟩ : 128 ≤ c ∧ c < 256 ∧ Dig (d :: t) := h
    have := lastNZ_pos (d :: t) h2 e
    rw [show dval (c :: d :: t) = c % 128 + 128 * dval (d :: t) from rfl]
    omega
/-- A number written anew: its own bytes, or fewer. -/
theorem enc_dig : ∀ (ds : List Int), Dig ds → ds.length ≤ 4 → ∀ out : List Int, out.length + ds.length < 10000000000000 →
    ∃ r, Ev (fun k => spec_l10Num.l0 k out (dval ds)) r ∧ (out.length ≤ r.length ∧ r.length ≤ out.length + ds.length) ∧ (mnD ds = true → r = out ++ ds) ∧ (mnD ds = false → r.length < out.length + ds.length)
  | [], h, _, _, _ => h.elim
  | [c], h, _, out, ho => by
    obtain ⟨h0, h1⟩ : 0 ≤ c ∧ c < 128 := h
    rw [List.length_singleton] at ho
    have e : dval [c] = c := by simp only [dval]; omega
    rw [e]
    refine ⟨out ++ [c % 256], Ev.step ?_, ⟨by simp, by simp⟩, fun _ => by rw [show c % 256 = c by omega], fun h => by simp [mnD] at h⟩
    simp only [spec_l10Num.l0]
    exact Ev.neg (by omega) (Ev.pos (by omega) Ev.pure)
  | c :: d :: t, h, hl, out, ho => by
    obtain ⟨h0, h1, h2⟩ : 128 ≤ c ∧ c < 256 ∧ Dig (d :: t) := h
    have hv := dval_four (c :: d :: t) ⟨h0, h1, h2⟩ hl
    have hw := dval_four (d :: t) h2 (by simp at hl ⊢; omega)
    have e : dval (c :: d :: t) = c % 128 + 128 * dval (d :: t) := rfl
    have hll : (c :: d :: t).length = (d :: t).length + 1 := rfl
    have hpos : 0 < (d :: t).length := by simp
    have hm : mnD (c :: d :: t) = lastNZ (d :: t) := by
      have : ((c :: d :: t).length == 1) = false := by simp
      unfold mnD
      rw [this, Bool.or_false]; rfl
    by_cases cv : 1 ≤ dval (d :: t)
    · have hs : ∃ l : List Int, l = out ++ [c] ∧ l.length = out.length + 1 := ⟨_, rfl, by simp⟩
      obtain ⟨l, hl1, hl2⟩ := hs
      obtain ⟨r, r1, r2, r3, r4⟩ := enc_dig (d :: t) h2 (by omega) l (by omega)
      generalize hn : dval (c :: d :: t) = n at *
      generalize hn2 : dval (d :: t) = v at *
      have e1 : Unit → (wrap64 ((Int.tmod n 128) + 128)) % 256 = c := fun _ => by
        rw [Int.tmod_eq_emod_of_nonneg hv.1, w64 _ (by omega) (by omega)]; omega
      have e2 : Unit → wrap64 (Int.tdiv n 128) = v := fun _ => by
        rw [Int.tdiv_eq_ediv_of_nonneg hv.1, w64 _ (by omega) (by omega)]; omega
      refine ⟨r, Ev.step ?_, ⟨by omega, by omega⟩, fun hmn => ?_, fun hmn => ?_⟩
      · simp only [spec_l10Num.l0, e1 (), e2 (), ← hl1]
        exact Ev.pos (by omega) (Ev.pos (by omega) r1)
      · rw [hm] at hmn
        rw [r3 (by unfold mnD; rw [hmn]; rfl), hl1]
        simp
      · rw [hm] at hmn
        have : mnD (d :: t) = false := by
          unfold mnD
          rw [hmn, Bool.false_or]
          cases t with
          | nil =>
            exfalso
            have hd : d = 0 := by simpa [lastNZ] using hmn
            subst hd
            simp [dval] at hn2
            omega
          | cons x y => simp
        have := r4 this
        omega
    · have hz : lastNZ (d :: t) = false := by
        cases hq : lastNZ (d :: t)
        · rfl
        · exact absurd (lastNZ_pos _ h2 hq) cv
      generalize hn : dval (c :: d :: t) = n at *
      refine ⟨out ++ [n % 256], Ev.step ?_, ⟨by simp, by simp⟩, fun hmn => ?_, fun _ => by simp⟩
      · simp only [spec_l10Num.l0]
        exact Ev.neg (by omega) (Ev.pos (by omega) Ev.pure)
      · rw [hm, hz] at hmn; cases hmn
theorem and127b_all : ∀ c : Fin 256, Go.bits .and .u8 (c.val : Int) 127 = (c.val : Int) % 128 := by decide +kernel
theorem and127b (c : Int) (h0 : 0 ≤ c) (h1 : c < 256) : Go.bits .and .u8 c 127 = c % 128 := by
  have := and127b_all ⟨c.toNat, by omega⟩
  simpa [Int.toNat_of_nonneg h0] using this
theorem or_comm64 (a b : Int) : Go.bits .or .i64 a b = Go.bits .or .i64 b a := by
  show IntKind.i64.wrap _ = IntKind.i64.wrap _
  rw [BitVec.or_comm]
/-- The next seven bits, set above what is there. -/
theorem or_up (n x : Int) (s : Nat) (hs : s ≤ 21) (h0 : 0 ≤ n) (h1 : n < 2 ^ s) (h2 : 0 ≤ x) (h3 : x < 128) : Go.bits .or .i64 n (x * 2 ^ s) = n + x * 2 ^ s := by
  have hp : (2 : Int) ^ s ≤ 2 ^ 21 := by
    have := Nat.pow_le_pow_right (n := 2) (by omega) hs
    exact_mod_cast this
  rw [show (2 : Int) ^ 21 = 2097152 by decide] at hp
  have hp0 : (0 : Int) < 2 ^ s := by
    have := Nat.two_pow_pos s
    exact_mod_cast this
  have hx0 : 0 ≤ x * 2 ^ s := Int.mul_nonneg h2 (by omega)
  have hx1 : x * 2 ^ s ≤ 127 * 2 ^ s := Int.mul_le_mul_of_nonneg_right (by omega) (by omega)
  have h63 : (2 : Int) ^ 63 = 9223372036854775808 := by decide
  rw [or_comm64, bits_join .i64 63 (by decide) (fun n a b => i64w n (by omega) (by omega)) s (x * 2 ^ s) n hx0 (Int.mul_emod_left _ _) (by omega) h0 h1 (by omega)]
  omega
theorem shl_up (x : Int) (s : Nat) (hs : s ≤ 21) (h2 : 0 ≤ x) (h3 : x < 128) : shl .i64 x (s : Int) = x * 2 ^ s := by
  have hp : (2 : Int) ^ s ≤ 2 ^ 21 := by
    have := Nat.pow_le_pow_right (n := 2) (by omega) hs
    exact_mod_cast this
  rw [show (2 : Int) ^ 21 = 2097152 by decide] at hp
  have hp0 : (0 : Int) < 2 ^ s := by
    have := Nat.two_pow_pos s
    exact_mod_cast this
  have hx0 : 0 ≤ x * 2 ^ s := Int.mul_nonneg h2 (by omega)
  have hx1 : x * 2 ^ s ≤ 127 * 2 ^ s := Int.mul_le_mul_of_nonneg_right (by omega) (by omega)
  show IntKind.i64.wrap (x * 2 ^ min (s : Int).toNat 64) = _
  rw [Int.toNat_natCast, Nat.min_eq_left (by omega)]
  exact i64w _ (by omega) (by omega)
theorem rdAt (p t : List Int) (c : Int) : rd (p ++ c :: t) (p.length : Int) = c := by unfold rd; simp [List.getD_eq_getElem?_getD]
set_option maxHeartbeats 2000000 in
/-- Both sides read a number: the same digits, or both nothing. -/
theorem num_both (b : List Int) (hb : b.length ≤ 1048576) (hw : ∀ c ∈ b, 0 ≤ c ∧ c < 256) (f : Bool) : ∀ d : Nat, d ≤ 4 → ∀ (p t : List Int) (acc : Int), b = p ++ t → 0 ≤ acc → acc < 2 ^ (28 - 7 * d) →
    (∃ ds t', t = ds ++ t' ∧ Dig ds ∧ ds.length ≤ d ∧ Ev (fun k => spec_l10Read.l0 k acc ((28 - 7 * d : Nat) : Int) b (p.length : Int) f) (acc + dval ds * 2 ^ (28 - 7 * d), ((p ++ ds).length : Int), f) ∧
      Ev (fun k => rdNum k b (p.length : Int) acc ((28 - 7 * d : Nat) : Int)) (acc + dval ds * 2 ^ (28 - 7 * d), lastNZ ds || (((28 - 7 * d : Nat) : Int) == 0 && ds.length == 1), ((p ++ ds).length : Int))) ∨
    (∃ q t', b = q ++ t' ∧ Ev (fun k => spec_l10Read.l0 k acc ((28 - 7 * d : Nat) : Int) b (p.length : Int) f) (0, (q.length : Int), true) ∧ Ev (fun k => rdNum k b (p.length : Int) acc ((28 - 7 * d : Nat) : Int)) (0, false, (q.length : Int)))
  | 0, _, p, t, acc, he, h0, h1 => by
    refine .inr ⟨p, t, he, Ev.step ?_, Ev.step ?_⟩
    · simp only [spec_l10Read.l0]
      exact Ev.neg (by decide) Ev.pure
    · simp only [rdNum]
      by_cases c : (p.length : Int) < (b.length : Int)
      · exact Ev.pos c (Ev.neg (by decide) Ev.pure)
      · exact Ev.neg c Ev.pure
  | d + 1, hd, p, [], acc, he, h0, h1 => by
    have hl : b.length = p.length := by rw [he]; simp
    have hs : ((28 - 7 * (d + 1) : Nat) : Int) < 28 := by omega
    refine .inr ⟨p, [], he, Ev.step ?_, Ev.step ?_⟩
    · simp only [spec_l10Read.l0]
      exact Ev.pos hs (Ev.pos (by omega) Ev.pure)
    · simp only [rdNum]
      exact Ev.neg (by omega) Ev.pure
  | d + 1, hd, p, c :: t, acc, he, h0, h1 => by
    have hl : b.length = p.length + t.length + 1 := by rw [he]; simp; omega
    have hc := hw c (by rw [he]; simp)
    have hr : rd b (p.length : Int) = c := by rw [he]; exact rdAt p t c
    obtain ⟨s, hs⟩ : ∃ s, s = 28 - 7 * (d + 1) := ⟨_, rfl⟩
    have hs2 : d = 0 ∨ 28 - 7 * d = s + 7 := by omega
    have hshU : Unit → s + 7 ≤ 28 → ((28 - 7 * d : Nat) : Int) = wrap64 ((s : Int) + 7) := fun _ _ => by rw [w64 _ (by omega) (by omega)]; omega
    have hsh2U : Unit → s + 7 ≤ 28 → ((28 - 7 * d : Nat) : Int) = IntKind.u64.wrap ((s : Int) + 7) := fun _ _ => by rw [u64w _ (by omega) (by omega)]; omega
    rw [← hs] at h1 ⊢
    have hx : shl .i64 (wrap64 (Go.bits .and .u8 c 127)) (s : Int) = c % 128 * 2 ^ s := by
      rw [and127b c hc.1 hc.2, w64 _ (by omega) (by omega)]
      exact shl_up _ s (by omega) (by omega) (by omega)
    have hor : Go.bits .or .i64 acc (c % 128 * 2 ^ s) = acc + c % 128 * 2 ^ s := or_up acc _ s (by omega) h0 h1 (by omega) (by omega)
    have hp : (2 : Int) ^ s ≤ 2 ^ 21 := by
      have := Nat.pow_le_pow_right (n := 2) (by omega) (show s ≤ 21 by omega)
      exact_mod_cast this
    rw [show (2 : Int) ^ 21 = 2097152 by decide] at hp
    have hp0 : (0 : Int) < 2 ^ s := by
      have := Nat.two_pow_pos s
      exact_mod_cast this
    have hx0 : 0 ≤ c % 128 * 2 ^ s := Int.mul_nonneg (by omega) (by omega)
    have hx1 : c % 128 * 2 ^ s ≤ 127 * 2 ^ s := Int.mul_le_mul_of_nonneg_right (by omega) (by omega)
    have hsum : wrap64 (acc + c % 128 * 2 ^ s) = acc + c % 128 * 2 ^ s := w64 _ (by omega) (by omega)
    have hup : wrap64 ((p.length : Int) + 1) = ((p ++ [c]).length : Int) := by rw [List.length_append, List.length_singleton]; exact upN _ (by omega)
    by_cases c9 : c < 128
    · refine .inl ⟨[c], t, rfl, ⟨hc.1, c9⟩, by simp, Ev.step ?_, Ev.step ?_⟩
      · simp only [spec_l10Read.l0, hr, hx, hsum, hup]
        have e : dval [c] = c % 128 := by simp [dval]
        rw [e]
        exact Ev.pos (by omega) (Ev.neg (by omega) (Ev.pos (by omega) (Ev.pos (by omega) (Ev.pos (by omega) (Ev.pos c9 Ev.pure)))))
      · simp only [rdNum, hr, hx, hor, hup]
        have e : dval [c] = c % 128 := by simp [dval]
        have e2 : (lastNZ [c] || ((s : Int) == 0 && ([c] : List Int).length == 1)) = (!(c == 0) || (s : Int) == 0) := by simp [lastNZ]
        rw [e, e2]
        exact Ev.pos (by omega) (Ev.pos (by omega) (Ev.pos (by omega) (Ev.pos (by omega) (Ev.pos c9 Ev.pure))))
    · have hbound : acc + c % 128 * 2 ^ s < 2 ^ (28 - 7 * d) := by
        rw [show 28 - 7 * d = s + 7 by omega, Int.pow_add]
        rw [show (2 : Int) ^ 7 = 128 by decide]
        omega
      have h28 : s + 7 ≤ 28 := by omega
      have hsh := fun u : Unit => hshU u h28
      have hsh2 := fun u : Unit => hsh2U u h28
      rcases num_both b hb hw f d (by omega) (p ++ [c]) t (acc + c % 128 * 2 ^ s) (by rw [he]; simp) (by omega) hbound with ⟨ds, t', h2, h3, h4, h5, h6⟩ | ⟨q, t', h2, h5, h6⟩
      · obtain ⟨x, y, rfl⟩ : ∃ x y, ds = x :: y := by
          cases ds with
          | nil => exact h3.elim
          | cons x y => exact ⟨x, y, rfl⟩
        have ev : acc + dval (c :: x :: y) * 2 ^ s = acc + c % 128 * 2 ^ s + dval (x :: y) * 2 ^ (28 - 7 * d) := by
          rw [show 28 - 7 * d = s + 7 by omega, Int.pow_add, show dval (c :: x :: y) = c % 128 + 128 * dval (x :: y) from rfl, Int.add_mul, show (2 : Int) ^ 7 = 128 by decide]
          rw [Int.mul_comm (2 ^ s) 128, ← Int.mul_assoc, Int.mul_comm (dval (x :: y)) 128]
          omega
        have el : p ++ c :: x :: y = p ++ [c] ++ (x :: y) := by simp
        have hz : (((28 - 7 * d : Nat) : Int) == 0) = false := by simp; omega
        rw [hz, Bool.false_and, Bool.or_false] at h6
        refine .inl ⟨c :: x :: y, t', by rw [h2]; simp, ⟨by omega, hc.2, h3⟩, by simp at h4 ⊢; omega, Ev.step ?_, Ev.step ?_⟩
        · rw [ev, el]
          simp only [spec_l10Read.l0, hr, hx, hsum, hup, ← hsh2 ()]
          exact Ev.pos (by omega) (Ev.neg (by omega) (Ev.pos (by omega) (Ev.pos (by omega) (Ev.pos (by omega) (Ev.neg c9 h5)))))
        · have e2 : (lastNZ (c :: x :: y) || ((s : Int) == 0 && (c :: x :: y).length == 1)) = lastNZ (x :: y) := by
            have : ((c :: x :: y).length == 1) = false := by simp
            rw [this, Bool.and_false, Bool.or_false]; rfl
          rw [ev, el, e2]
          simp only [rdNum, hr, hx, hor, hup, ← hsh ()]
          exact Ev.pos (by omega) (Ev.pos (by omega) (Ev.pos (by omega) (Ev.pos (by omega) (Ev.neg c9 h6))))
      · refine .inr ⟨q, t', h2, Ev.step ?_, Ev.step ?_⟩
        · simp only [spec_l10Read.l0, hr, hx, hsum, hup, ← hsh2 ()]
          exact Ev.pos (by omega) (Ev.neg (by omega) (Ev.pos (by omega) (Ev.pos (by omega) (Ev.pos (by omega) (Ev.neg c9 h5)))))
        · simp only [rdNum, hr, hx, hor, hup, ← hsh ()]
          exact Ev.pos (by omega) (Ev.pos (by omega) (Ev.pos (by omega) (Ev.pos (by omega) (Ev.neg c9 h6))))
/-- A number at a place. -/
theorem read_both (b : List Int) (hb : b.length ≤ 1048576) (hw : ∀ c ∈ b, 0 ≤ c ∧ c < 256) (f : Bool) (p t : List Int) (he : b = p ++ t) :
    (∃ ds t', t = ds ++ t' ∧ Dig ds ∧ ds.length ≤ 4 ∧ Ev (fun k => spec_l10Read.f k b (p.length : Int) f) (dval ds, ((p ++ ds).length : Int), f) ∧ Ev (fun k => rdNum k b (p.length : Int) 0 0) (dval ds, mnD ds, ((p ++ ds).length : Int))) ∨
    (∃ q t', b = q ++ t' ∧ Ev (fun k => spec_l10Read.f k b (p.length : Int) f) (0, (q.length : Int), true) ∧ Ev (fun k => rdNum k b (p.length : Int) 0 0) (0, false, (q.length : Int))) := by
  unfold spec_l10Read.f
  have := num_both b hb hw f 4 (by omega) p t 0 he (by omega) (by decide)
  simpa [mnD] using this

-- ReadD
def okS (s : S62) : Prop := (s.f0 = 1 ∧ 1 ≤ s.f2 ∧ s.f2 ≤ 268435455 ∧ 0 ≤ s.f1 ∧ s.f1 ≤ 268435455 ∧ s.f3.length = 0) ∨ (s.f0 = 2 ∧ s.f1 = 0 ∧ s.f2 = 0 ∧ 0 < s.f3.length)
/-- One step's bytes are written behind out. -/
def RunS (s : S62) (out r : List Int) : Prop := okS s ∧ ∃ r1 : List Int, out.length + 1 ≤ r1.length ∧ r1.length ≤ r.length ∧
  ((s.f0 = 1 ∧ Ev (fun k => spec_l10Num.f k (out ++ [1]) s.f1) r1 ∧ Ev (fun k => spec_l10Num.f k r1 s.f2) r) ∨ (s.f0 = 2 ∧ Ev (fun k => spec_l10Num.f k (out ++ [2]) (s.f3.length : Int)) r1 ∧ r = r1 ++ s.f3))
def Run : List S62 → List Int → List Int → Prop
  | [], out, q => q = out
  | s :: t, out, q => ∃ r, RunS s out r ∧ Run t r q
theorem Run.app : ∀ {a b : List S62} {x y z : List Int}, Run a x y → Run b y z → Run (a ++ b) x z
  | [], _, _, _, _, h, h2 => by
    obtain rfl : _ = _ := h
    exact h2
  | _ :: _, _, _, _, _, ⟨r, h, h1⟩, h2 => ⟨r, h, Run.app h1 h2⟩
theorem Run.len : ∀ {t : List S62} {x y : List Int}, Run t x y → x.length ≤ y.length
  | [], _, _, h => by
    obtain rfl : _ = _ := h
    exact Nat.le_refl _
  | _ :: _, _, _, ⟨r, ⟨_, r1, h0, h1, _⟩, h2⟩ => by
    have := Run.len h2
    omega
theorem rdL (pre t : List S62) (s : S62) : rd_T62 (pre ++ s :: t) (pre.length : Int) = s := by unfold rd_T62; simp [List.getD_eq_getElem?_getD]
theorem upL (pre : List S62) (s : S62) (h : pre.length < 100000000) : wrap64 ((pre.length : Int) + 1) = ((pre ++ [s]).length : Int) := by
  rw [List.length_append, List.length_singleton]
  exact upN _ (by omega)
/-- What is written of the steps. -/
theorem run_db (ds : List S62) (hd : ds.length ≤ 10000) : ∀ (t pre : List S62) (out q : List Int), ds = pre ++ t → Run t out q → q.length ≤ 100000000000 → (∀ s ∈ ds, s.f3.length ≤ 1048576) → Ev (fun k => spec_DeltaBytes.l0 k ds out (pre.length : Int)) q
  | [], pre, out, q, he, hr, hq, hb => by
    obtain rfl : _ = _ := hr
    refine Ev.step ?_
    simp only [spec_DeltaBytes.l0]
    rw [he]
    exact Ev.neg (by simp) Ev.pure
  | s :: t, pre, out, q, he, ⟨r, ⟨hs, r1, l1, l2, hc⟩, hr⟩, hq, hb => by
    have hl := Run.len hr
    have hbs := hb s (by rw [he]; simp)
    have hlen : ds.length = pre.length + t.length + 1 := by rw [he]; simp; omega
    have ih := run_db ds hd t (pre ++ [s]) r q (by rw [he]; simp) hr hq hb
    obtain ⟨ts, es, is⟩ := specStep s.f0 s.f1 s.f2 s.f3
    have et : ts = true := is.2 hs
    subst et
    have hrd : rd_T62 ds (pre.length : Int) = s := by rw [he]; exact rdL pre t s
    have hup := upL pre s (by omega)
    refine Ev.step ?_
    simp only [spec_DeltaBytes.l0, hrd, hup]
    clear is
    rcases hc with ⟨h1, e1, e2⟩ | ⟨h1, e1, e2⟩
    · have hk : s.f0 % 256 = 1 := by omega
      rw [hk]
      exact Ev.pos (by omega) (Ev.pos (by omega) (Ev.cons es (Ev.pos rfl (Ev.pos (by omega) (Ev.cons rfl (Ev.pos h1 (Ev.bind e1 (Ev.bind e2 ih))))))))
    · have hk : s.f0 % 256 = 2 := by omega
      rw [hk]
      have hrl : r.length = r1.length + s.f3.length := by rw [e2]; simp
      rw [e2] at ih
      exact Ev.pos (by omega) (Ev.pos (by omega) (Ev.cons es (Ev.pos rfl (Ev.pos (by omega) (Ev.cons rfl (Ev.neg (by omega) (Ev.bind e1 (Ev.pos (by omega) ih))))))))
theorem num_spec (d : Nat) (hd : d ≤ 8) : ∀ (out : List Int) (n : Int), 0 ≤ n → n < 128 ^ d → out.length + d < 100000000000000 → ∃ r, Ev (fun k => spec_l10Num.l0 k out n) r ∧ out.length ≤ r.length ∧ r.length ≤ out.length + d + 1 := by
  induction d with
  | zero =>
    intro out n h0 h1 h2
    have hn : n < 128 := by simp at h1; omega
    refine ⟨out ++ [n % 256], Ev.step ?_, by simp, by simp⟩
    simp only [spec_l10Num.l0]
    exact Ev.neg (by omega) (Ev.pos (by omega) Ev.pure)
  | succ d ih =>
    intro out n h0 h1 h2
    by_cases c : n ≥ 128
    · have hp : (128 : Int) ^ (d + 1) = 128 ^ d * 128 := Int.pow_succ 128 d
      have hm : (128 : Int) ^ (d + 1) ≤ 128 ^ 8 := by
        have := Nat.pow_le_pow_right (n := 128) (by omega) hd
        exact_mod_cast this
      have hm2 : (128 : Int) ^ 8 = 72057594037927936 := by decide
      rw [hm2] at hm
      have hs : ∃ l : List Int, l = out ++ [n % 128 + 128] ∧ l.length = out.length + 1 := ⟨_, rfl, by simp⟩
      obtain ⟨l, hl, hll⟩ := hs
      obtain ⟨r, r1, r2, r3⟩ := ih (by omega) l (n / 128) (by omega) (by omega) (by omega)
      have e1 : Unit → (wrap64 ((Int.tmod n 128) + 128)) % 256 = n % 128 + 128 := fun _ => by
        rw [Int.tmod_eq_emod_of_nonneg h0, w64 _ (by omega) (by omega)]; omega
      have e2 : Unit → wrap64 (Int.tdiv n 128) = n / 128 := fun _ => by
        rw [Int.tdiv_eq_ediv_of_nonneg h0, w64 _ (by omega) (by omega)]
      refine ⟨r, Ev.step ?_, by omega, by omega⟩
      simp only [spec_l10Num.l0, e1 (), e2 (), ← hl]
      exact Ev.pos c (Ev.pos (by omega) r1)
    · refine ⟨out ++ [n % 256], Ev.step ?_, by simp, by rw [List.length_append, List.length_singleton]; omega⟩
      simp only [spec_l10Num.l0]
      exact Ev.neg (by omega) (Ev.pos (by omega) Ev.pure)
theorem num_ex (out : List Int) (n : Int) (h0 : 0 ≤ n) (h1 : n < 72057594037927936) (h2 : out.length + 8 < 100000000000000) : ∃ r, Ev (fun k => spec_l10Num.f k out n) r ∧ out.length ≤ r.length ∧ r.length ≤ out.length + 9 := by
  unfold spec_l10Num.f
  exact num_spec 8 (by omega) out n h0 (by rw [show (128 : Int) ^ 8 = 72057594037927936 by decide]; exact h1) h2
theorem runS_ex (s : S62) (h : okS s) (hb : s.f3.length ≤ 1048576) (out : List Int) (ho : out.length ≤ 100000000000) : ∃ r, RunS s out r ∧ r.length ≤ out.length + 1048600 := by
  have hl : ∀ x : Int, (out ++ [x]).length = out.length + 1 := fun x => by simp
  rcases h with ⟨k1, n1, n2, a0, a1, d0⟩ | ⟨k1, a0, n0, d0⟩
  · obtain ⟨r1, e1, l1, l2⟩ := num_ex (out ++ [1]) s.f1 a0 (by omega) (by rw [hl]; omega)
    obtain ⟨r, e2, l3, l4⟩ := num_ex r1 s.f2 (by omega) (by omega) (by rw [hl] at l2; omega)
    rw [hl] at l1 l2
    exact ⟨r, ⟨.inl ⟨k1, n1, n2, a0, a1, d0⟩, r1, l1, l3, .inl ⟨k1, e1, e2⟩⟩, by omega⟩
  · obtain ⟨r1, e1, l1, l2⟩ := num_ex (out ++ [2]) (s.f3.length : Int) (by omega) (by omega) (by rw [hl]; omega)
    rw [hl] at l1 l2
    exact ⟨r1 ++ s.f3, ⟨.inr ⟨k1, a0, n0, d0⟩, r1, l1, by simp, .inr ⟨k1, e1, rfl⟩⟩, by rw [List.length_append]; omega⟩
/-- A step that cannot be: nothing is written. -/
theorem bad_db (ds : List S62) (hd : ds.length ≤ 10000) (hb : ∀ s ∈ ds, s.f3.length ≤ 1048576) : ∀ (t pre : List S62) (out : List Int), ds = pre ++ t → (∃ s ∈ t, ¬ okS s) → out.length ≤ 4 + pre.length * 1048600 → Ev (fun k => spec_DeltaBytes.l0 k ds out (pre.length : Int)) []
  | [], _, _, _, ⟨_, hs, _⟩, _ => by cases hs
  | s :: t, pre, out, he, hx, ho => by
    have hbs := hb s (by rw [he]; simp)
    have hlen : ds.length = pre.length + t.length + 1 := by rw [he]; simp; omega
    obtain ⟨ts, es, is⟩ := specStep s.f0 s.f1 s.f2 s.f3
    have hrd : rd_T62 ds (pre.length : Int) = s := by rw [he]; exact rdL pre t s
    have hup := upL pre s (by omega)
    refine Ev.step ?_
    by_cases hs : okS s
    · have et : ts = true := is.2 hs
      subst et
      clear is
      obtain ⟨r, ⟨_, r1, l1, l2, hc⟩, l3⟩ := runS_ex s hs hbs out (by omega)
      have ih := bad_db ds hd hb t (pre ++ [s]) r (by rw [he]; simp) (by
        obtain ⟨x, hx1, hx2⟩ := hx
        rcases List.mem_cons.1 hx1 with rfl | hx1
        · exact absurd hs hx2
        · exact ⟨x, hx1, hx2⟩) (by rw [List.length_append, List.length_singleton]; omega)
      simp only [spec_DeltaBytes.l0, hrd, hup]
      rcases hc with ⟨h1, e1, e2⟩ | ⟨h1, e1, e2⟩
      · have hk : s.f0 % 256 = 1 := by omega
        rw [hk]
        exact Ev.pos (by omega) (Ev.pos (by omega) (Ev.cons es (Ev.pos rfl (Ev.pos (by omega) (Ev.cons rfl (Ev.pos h1 (Ev.bind e1 (Ev.bind e2 ih))))))))
      · have hk : s.f0 % 256 = 2 := by omega
        rw [hk]
        have hrl : r.length = r1.length + s.f3.length := by rw [e2]; simp
        rw [e2] at ih
        exact Ev.pos (by omega) (Ev.pos (by omega) (Ev.cons es (Ev.pos rfl (Ev.pos (by omega) (Ev.cons rfl (Ev.neg (by omega) (Ev.bind e1 (Ev.pos (by omega) ih))))))))
    · have et : ts = false := by
        cases ts
        · rfl
        · exact absurd (is.1 rfl) hs
      subst et
      simp only [spec_DeltaBytes.l0, hrd]
      exact Ev.pos (by omega) (Ev.pos (by omega) (Ev.cons es (Ev.neg (by simp) Ev.pure)))
/-- The steps' bytes are cs; are fewer; or a step cannot be. -/
def Good (ss : List S62) (cs : List Int) : Prop := ∀ out : List Int, out.length + cs.length ≤ 10000000 → Run ss out (out ++ cs)
def Less (ss : List S62) (cs : List Int) : Prop := ∀ out : List Int, out.length + cs.length ≤ 10000000 → ∃ r, Run ss out r ∧ r.length < out.length + cs.length
def Bad (ss : List S62) : Prop := ∃ s ∈ ss, ¬ okS s
theorem Good.app {a b : List S62} {x y : List Int} (h : Good a x) (h2 : Good b y) : Good (a ++ b) (x ++ y) := fun out ho => by
  rw [List.length_append] at ho
  have := (h out (by omega)).app (h2 (out ++ x) (by rw [List.length_append]; omega))
  rwa [List.append_assoc] at this
theorem Good.less {a b : List S62} {x y : List Int} (h : Good a x) (h2 : Less b y) : Less (a ++ b) (x ++ y) := fun out ho => by
  rw [List.length_append] at ho
  obtain ⟨r, hr, hl⟩ := h2 (out ++ x) (by rw [List.length_append]; omega)
  exact ⟨r, (h out (by omega)).app hr, by rw [List.length_append] at hl ⊢; omega⟩
theorem Less.good {a b : List S62} {x y : List Int} (h : Less a x) (h2 : Good b y ∨ Less b y) : Less (a ++ b) (x ++ y) := fun out ho => by
  rw [List.length_append] at ho
  obtain ⟨r, hr, hl⟩ := h out (by omega)
  rcases h2 with h2 | h2
  · exact ⟨r ++ y, hr.app (h2 r (by omega)), by rw [List.length_append, List.length_append]; omega⟩
  · obtain ⟨q, hq, hl2⟩ := h2 r (by omega)
    exact ⟨q, hr.app hq, by rw [List.length_append]; omega⟩

-- ReadE
theorem bytesL_str : ∀ (xs : List Int), (∀ c ∈ xs, 0 ≤ c ∧ c < 256) → bytesL (strOfNums xs) = xs := by
  intro xs h
  unfold bytesL
  rw [strOfNums_data, List.map_map]
  have : ∀ c ∈ xs, ((fun b : UInt8 => (b.toNat : Int)) ∘ fun n : Int => UInt8.ofNat n.toNat) c = c := fun c hc => by
    have := h c hc
    simp only [Function.comp_apply]
    rw [UInt8.toNat_ofNat_of_lt' (by show c.toNat < 256; omega)]
    omega
  rw [List.map_congr_left this, List.map_id']
section
variable (b : List Int) (hb : b.length ≤ 1048576) (hw : ∀ c ∈ b, 0 ≤ c ∧ c < 256)
/-- A reader that is bad: nothing more. -/
theorem spec_stop (o : List S62) (p : List Int) : Ev (fun k => spec_ReadDelta.l0 k b ([] : List S62) o b (p.length : Int) true) (([] : List S62), false) := by
  have fin : Ev (fun k => spec_ReadDelta.j2 k b ([] : List S62) o false b (p.length : Int) true) (([] : List S62), false) := by
    refine Ev.step ?_
    simp only [spec_ReadDelta.j2]
    exact Ev.neg (by simp) (Ev.pos trivial Ev.pure)
  refine Ev.step ?_
  simp only [spec_ReadDelta.l0, Bool.not_true]
  by_cases c : (p.length : Int) < (b.length : Int)
  · exact Ev.pos c fin
  · exact Ev.neg c fin
include hb hw
theorem read_bad (p t : List Int) (he : b = p ++ t) : ∃ n q t', b = q ++ t' ∧ Ev (fun k => spec_l10Read.f k b (p.length : Int) true) (n, (q.length : Int), true) := by
  rcases read_both b hb hw true p t he with ⟨ds, t', h1, _, _, h2, _⟩ | ⟨q, t', h1, h2, _⟩
  · exact ⟨_, p ++ ds, t', by rw [he, h1]; simp, h2⟩
  · exact ⟨_, q, t', h1, h2⟩
/-- A text: its number's digits, and the text; or nothing. -/
theorem text_both (p t : List Int) (he : b = p ++ t) :
    (∃ ds dt t', t = ds ++ (dt ++ t') ∧ Dig ds ∧ ds.length ≤ 4 ∧ (dt.length : Int) = dval ds ∧ Ev (fun k => spec_l10ReadText.f k b (p.length : Int) false) (strOfNums dt, ((p ++ ds ++ dt).length : Int), false) ∧ Ev (fun k => rdNum k b (p.length : Int) 0 0) (dval ds, mnD ds, ((p ++ ds).length : Int))) ∨
    (∃ q t', b = q ++ t' ∧ Ev (fun k => spec_l10ReadText.f k b (p.length : Int) false) ((⟨#[]⟩ : ByteArray), (q.length : Int), true) ∧ ∃ n ok, Ev (fun k => rdNum k b (p.length : Int) 0 0) (n, ok, (q.length : Int)) ∧ (ok = true → (b.length : Int) - q.length < n)) := by
  unfold spec_l10ReadText.f
  rcases read_both b hb hw false p t he with ⟨ds, t', h1, h2, h3, h4, h5⟩ | ⟨q, t', h1, h4, h5⟩
  · have hl : b.length = p.length + ds.length + t'.length := by rw [he, h1]; simp; omega
    have hv := dval_four ds h2 h3
    have hpl : (p ++ ds).length = p.length + ds.length := by simp
    have e1 : wrap64 ((b.length : Int) - ((p ++ ds).length : Int)) = (t'.length : Int) := by rw [w64 _ (by omega) (by omega)]; omega
    by_cases c : dval ds > (t'.length : Int)
    · refine .inr ⟨p ++ ds, t', by rw [he, h1]; simp, Ev.bind h4 ?_, _, _, h5, fun _ => by omega⟩
      simp only [e1]
      exact Ev.neg (by simp) (Ev.pos c Ev.pure)
    · obtain ⟨dt, t2, rfl, hd⟩ : ∃ dt t2, t' = dt ++ t2 ∧ (dt.length : Int) = dval ds := ⟨t'.take (dval ds).toNat, t'.drop (dval ds).toNat, (List.take_append_drop _ _).symm, by rw [List.length_take]; omega⟩
      refine .inl ⟨ds, dt, t2, h1, h2, h3, hd, Ev.bind h4 ?_, h5⟩
      have e2 : wrap64 (((p ++ ds).length : Int) + dval ds) = ((p ++ ds ++ dt).length : Int) := by
        rw [@List.length_append _ (p ++ ds), w64 _ (by omega) (by omega)]; omega
      have e3 : wrap64 (((p ++ ds ++ dt).length : Int) - dval ds) = ((p ++ ds).length : Int) := by
        rw [@List.length_append _ (p ++ ds), w64 _ (by omega) (by omega)]; omega
      have hll : (p ++ ds ++ dt).length = p.length + ds.length + dt.length := by simp; omega
      have e4 : (b.take (p ++ ds ++ dt).length).drop (p ++ ds).length = dt := by
        rw [he, h1, ← List.append_assoc, ← List.append_assoc, List.take_left' rfl, List.drop_left' rfl]
      simp only [e1, e2, e3, Int.toNat_natCast, e4]
      exact Ev.neg (by simp) (Ev.neg c (Ev.pos (by omega) (Ev.pos (by omega) (Ev.pos (by rw [List.length_append] at hl; omega) Ev.pure))))
  · exact .inr ⟨q, t', h1, Ev.bind h4 (Ev.pos rfl Ev.pure), _, _, h5, fun h => by cases h⟩
end

-- ReadF
theorem place_of {b : List Int} {i n p : Int} {ok : Bool} (h : Ev (fun k => rdNum k b i 0 0) (n, ok, p)) : Ev (fun k => rd_place k b i) p := by
  unfold rd_place
  exact Ev.bind h Ev.pure
theorem value_of {b : List Int} {i n p : Int} {ok : Bool} (h : Ev (fun k => rdNum k b i 0 0) (n, ok, p)) : Ev (fun k => rd_value k b i) (n, ok) := by
  unfold rd_value
  exact Ev.bind h Ev.pure
section
variable (b : List Int) (hb : b.length ≤ 1048576) (hw : ∀ c ∈ b, 0 ≤ c ∧ c < 256)
/-- The spec's run at a place, and the code's. -/
def SR (o : List S62) (i : Int) (r : List S62 × Bool) : Prop := Ev (fun k => spec_ReadDelta.l0 k b ([] : List S62) o b i false) r
def IR (o : List S62) (i : Int) (r : List S62 × Bool) : Prop := Ev (fun k => impl_ReadDelta.l0 k b i o) r
include hb hw
omit hb hw in
theorem SR_in (o : List S62) (p t : List Int) (c : Int) (he : b = p ++ c :: t) (r : List S62 × Bool) (h : Ev (fun k => spec_ReadDelta.j2 k b ([] : List S62) o true b (p.length : Int) false) r) : SR b o (p.length : Int) r := by
  have hl : b.length = p.length + t.length + 1 := by rw [he]; simp; omega
  refine Ev.step ?_
  simp only [spec_ReadDelta.l0, Bool.not_false]
  exact Ev.pos (by omega) h
omit hb hw in
theorem j1_fail (i v1 v2 : Int) (o : List S62) : Ev (fun k => impl_ReadDelta.j1 k b i o v1 v2 true) (([] : List S62), false) := by
  refine Ev.step ?_
  simp only [impl_ReadDelta.j1]
  exact Ev.pos trivial Ev.pure
omit hb hw in
theorem j2_fail (i v : Int) (o : List S62) : Ev (fun k => impl_ReadDelta.j2 k b i o v true) (([] : List S62), false) := by
  refine Ev.step ?_
  simp only [impl_ReadDelta.j2]
  exact Ev.pos trivial Ev.pure
/-- A copying step. -/
theorem step_copy (o : List S62) (ho : o.length ≤ 10000) (p t : List Int) (he : b = p ++ 1 :: t) :
    (SR b o (p.length : Int) ([], false) ∧ IR b o (p.length : Int) ([], false)) ∨
    ∃ s cs t2, (1 : Int) :: t = cs ++ t2 ∧ 0 < cs.length ∧ s.f3.length ≤ 1048576 ∧ o.length + 1 ≤ 10000 ∧ (∀ r, SR b (o ++ [s]) ((p ++ cs).length : Int) r → SR b o (p.length : Int) r) ∧
      ((Good [s] cs ∧ ∀ r, IR b (o ++ [s]) ((p ++ cs).length : Int) r → IR b o (p.length : Int) r) ∨ ((Less [s] cs ∨ Bad [s]) ∧ IR b o (p.length : Int) ([], false))) := by
  have hl : b.length = p.length + t.length + 1 := by rw [he]; simp; omega
  have hr : rd b (p.length : Int) = 1 := by rw [he]; exact rdAt p t 1
  have he1 : b = (p ++ [1]) ++ t := by rw [he]; simp
  have hup : wrap64 ((p.length : Int) + 1) = ((p ++ [(1 : Int)]).length : Int) := by rw [List.length_append, List.length_singleton]; exact upN _ (by omega)
  have hw1 : wrap64 1 = 1 := w64 1 (by decide) (by decide)
  have hol : ∀ s : S62, (o ++ [s]).length = o.length + 1 := fun s => by simp
  have spc : ∀ (r : List S62 × Bool), Ev (fun k => (spec_l10Read.f k b ((p ++ [(1 : Int)]).length : Int) false).bind fun bt173 => ((spec_l10Read.f k b bt173.2.1 bt173.2.2).bind fun bt176 => (if o.length < 2932031007402 then ((some (o ++ [(⟨1, bt173.1, bt176.1, ([] : List Int)⟩ : S62)] : List (S62))).bind fun y179 => (if (y179.length : Int) > 10000 then (some (([] : List S62), false)) else (spec_ReadDelta.l0 k b ([] : List S62) y179 b bt176.2.1 bt176.2.2))) else (none)))) r → SR b o (p.length : Int) r := by
    intro r h
    refine SR_in b o p t 1 he r (Ev.step ?_)
    simp only [spec_ReadDelta.j2, hr, hup, hw1]
    exact Ev.pos trivial (Ev.pos (by omega) (Ev.pos (by omega) (Ev.pos trivial h)))
  have imp : ∀ (r : List S62 × Bool) (v1 q1 v2 q2 : Int) (k1 k2 : Bool), Ev (fun k => rdNum k b ((p ++ [(1 : Int)]).length : Int) 0 0) (v1, k1, q1) → Ev (fun k => rdNum k b q1 0 0) (v2, k2, q2) →
      Ev (fun k => (if k1 = true then (if k2 = true then (impl_ReadDelta.j1 k b q2 o v1 v2 (v2 == 0)) else (impl_ReadDelta.j1 k b q2 o v1 v2 true)) else (impl_ReadDelta.j1 k b q2 o v1 v2 true))) r → IR b o (p.length : Int) r := by
    intro r v1 q1 v2 q2 k1 k2 r1 r2 h
    refine Ev.step ?_
    simp only [impl_ReadDelta.l0, hr, hup]
    exact Ev.pos (by omega) (Ev.pos (by omega) (Ev.pos trivial (Ev.bind (place_of r1) (Ev.bind (value_of r1) (Ev.bind (place_of r2) (Ev.bind (value_of r2) h))))))
  have bad : ∀ (v1 v2 : Int) (q t' : List Int), b = q ++ t' → Ev (fun k => (if o.length < 2932031007402 then ((some (o ++ [(⟨1, v1, v2, ([] : List Int)⟩ : S62)] : List (S62))).bind fun y179 => (if (y179.length : Int) > 10000 then (some (([] : List S62), false)) else (spec_ReadDelta.l0 k b ([] : List S62) y179 b (q.length : Int) true))) else (none))) (([] : List S62), false) := by
    intro v1 v2 q t' hq
    refine Ev.pos (by omega) (Ev.cons rfl ?_)
    by_cases c : ((o ++ [(⟨1, v1, v2, ([] : List Int)⟩ : S62)]).length : Int) > 10000
    · exact Ev.pos c Ev.pure
    · exact Ev.neg c (spec_stop b _ q)
  rcases read_both b hb hw false (p ++ [1]) t he1 with ⟨ds1, t1, h1, g1, l1, s1, i1⟩ | ⟨q, t', h1, s1, i1⟩
  · have he2 : b = (p ++ [1] ++ ds1) ++ t1 := by rw [he1, h1]; simp
    rcases read_both b hb hw false (p ++ [1] ++ ds1) t1 he2 with ⟨ds2, t2, h2, g2, l2, s2, i2⟩ | ⟨q, t', h2, s2, i2⟩
    · have v1 := dval_four ds1 g1 l1
      have v2 := dval_four ds2 g2 l2
      by_cases cO : o.length + 1 > 10000
      · refine .inl ⟨spc _ (Ev.bind s1 (Ev.bind s2 (Ev.pos (by omega) (Ev.cons rfl (Ev.pos (by rw [hol]; omega) Ev.pure))))), imp _ _ _ _ _ _ _ i1 i2 ?_⟩
        have fin : ∀ z : Bool, Ev (fun k => impl_ReadDelta.j1 k b ((p ++ [1] ++ ds1 ++ ds2).length : Int) o (dval ds1) (dval ds2) z) (([] : List S62), false) := by
          intro z
          cases z
          · refine Ev.step ?_
            simp only [impl_ReadDelta.j1]
            exact Ev.neg (by simp) (Ev.pos (by omega) (Ev.cons rfl (Ev.pos (by rw [hol]; omega) Ev.pure)))
          · exact j1_fail b _ _ _ _
        by_cases a : mnD ds1 = true
        · refine Ev.pos a ?_
          by_cases a2 : mnD ds2 = true
          · exact Ev.pos a2 (fin _)
          · exact Ev.neg a2 (fin _)
        · exact Ev.neg a (fin _)
      · refine .inr ⟨⟨1, dval ds1, dval ds2, []⟩, 1 :: (ds1 ++ ds2), t2, by rw [h1, h2]; simp, by simp, by simp, by omega, fun r hS => ?_, ?_⟩
        · have e : p ++ 1 :: (ds1 ++ ds2) = p ++ [1] ++ ds1 ++ ds2 := by simp
          rw [e] at hS
          exact spc _ (Ev.bind s1 (Ev.bind s2 (Ev.pos (by omega) (Ev.cons rfl (Ev.neg (by rw [hol]; omega) hS)))))
        · have okay : dval ds2 ≠ 0 → okS ⟨1, dval ds1, dval ds2, []⟩ := fun h0 => .inl ⟨rfl, by show 1 ≤ dval ds2; omega, by show dval ds2 ≤ 268435455; omega, by show 0 ≤ dval ds1; omega, by show dval ds1 ≤ 268435455; omega, rfl⟩
          have nf : ∀ out : List Int, Ev (fun k => spec_l10Num.l0 k out (dval ds1)) = Ev (fun k => spec_l10Num.f k out (dval ds1)) := fun out => rfl
          by_cases hz : dval ds2 = 0
          · refine .inr ⟨.inr ⟨_, List.mem_singleton.2 rfl, fun hk => ?_⟩, imp _ _ _ _ _ _ _ i1 i2 ?_⟩
            · rcases hk with ⟨_, h, _⟩ | ⟨h, _⟩
              · have h : 1 ≤ dval ds2 := h
                omega
              · exact absurd h (by show ¬ (1 : Int) = 2; decide)
            · have hzb : (dval ds2 == 0) = true := by simp [hz]
              rw [hzb]
              by_cases a : mnD ds1 = true
              · refine Ev.pos a ?_
                by_cases a2 : mnD ds2 = true
                · exact Ev.pos a2 (j1_fail b _ _ _ _)
                · exact Ev.neg a2 (j1_fail b _ _ _ _)
              · exact Ev.neg a (j1_fail b _ _ _ _)
          · have okk := okay hz
            have hzb : (dval ds2 == 0) = false := by simp [hz]
            by_cases a : mnD ds1 = true ∧ mnD ds2 = true
            · refine .inl ⟨fun out hout => ?_, fun r hI => ?_⟩
              · have hcl : (1 :: (ds1 ++ ds2)).length = 1 + ds1.length + ds2.length := by simp; omega
                have ho1 : (out ++ [(1 : Int)]).length = out.length + 1 := by simp
                obtain ⟨r1, e1, _, e2, _⟩ := enc_dig ds1 g1 l1 (out ++ [1]) (by omega)
                have e2 := e2 a.1
                subst e2
                obtain ⟨r2, e3, _, e4, _⟩ := enc_dig ds2 g2 l2 (out ++ [1] ++ ds1) (by rw [List.length_append]; omega)
                have e4 := e4 a.2
                subst e4
                exact ⟨_, ⟨okk, out ++ [1] ++ ds1, by simp, by simp, .inl ⟨rfl, e1, e3⟩⟩, by simp [Run]⟩
              · have e : p ++ 1 :: (ds1 ++ ds2) = p ++ [1] ++ ds1 ++ ds2 := by simp
                rw [e] at hI
                refine imp _ _ _ _ _ _ _ i1 i2 (Ev.pos a.1 (Ev.pos a.2 ?_))
                rw [hzb]
                refine Ev.step ?_
                simp only [impl_ReadDelta.j1]
                exact Ev.neg (by simp) (Ev.pos (by omega) (Ev.cons rfl (Ev.neg (by rw [hol]; omega) hI)))
            · refine .inr ⟨.inl fun out hout => ?_, imp _ _ _ _ _ _ _ i1 i2 ?_⟩
              · have hcl : (1 :: (ds1 ++ ds2)).length = 1 + ds1.length + ds2.length := by simp; omega
                have ho1 : (out ++ [(1 : Int)]).length = out.length + 1 := by simp
                obtain ⟨r1, e1, e1l, _, e2⟩ := enc_dig ds1 g1 l1 (out ++ [1]) (by omega)
                obtain ⟨r2, e3, e3l, _, e4⟩ := enc_dig ds2 g2 l2 r1 (by omega)
                refine ⟨r2, ⟨r2, ⟨okk, r1, by omega, by omega, .inl ⟨rfl, e1, e3⟩⟩, rfl⟩, ?_⟩
                by_cases a1 : mnD ds1 = true
                · have := e4 (by cases hq : mnD ds2
                                 · rfl
                                 · exact absurd ⟨a1, hq⟩ a)
                  omega
                · have := e2 (by cases hq : mnD ds1
                                 · rfl
                                 · exact absurd hq a1)
                  omega
              · by_cases a1 : mnD ds1 = true
                · exact Ev.pos a1 (Ev.neg (fun a2 => a ⟨a1, a2⟩) (j1_fail b _ _ _ _))
                · exact Ev.neg a1 (j1_fail b _ _ _ _)
    · refine .inl ⟨spc _ (Ev.bind s1 (Ev.bind s2 (bad _ _ q t' h2))), imp _ _ _ _ _ _ _ i1 i2 ?_⟩
      by_cases a : mnD ds1 = true
      · exact Ev.pos a (Ev.neg (by simp) (j1_fail b _ _ _ _))
      · exact Ev.neg a (j1_fail b _ _ _ _)
  · obtain ⟨n, q2, t2, h2, s2⟩ := read_bad b hb hw q t' h1
    obtain ⟨v2, k2, q3, i2⟩ : ∃ v2 k2 q3, Ev (fun k => rdNum k b (q.length : Int) 0 0) (v2, k2, q3) := by
      rcases read_both b hb hw false q t' h1 with ⟨_, _, _, _, _, _, h⟩ | ⟨_, _, _, _, h⟩
      · exact ⟨_, _, _, h⟩
      · exact ⟨_, _, _, h⟩
    exact .inl ⟨spc _ (Ev.bind s1 (Ev.bind s2 (bad _ _ q2 t2 h2))), imp _ _ _ _ _ _ _ i1 i2 (Ev.neg (by simp) (j1_fail b _ _ _ _))⟩
/-- A step of another kind: its text. -/
theorem step_text (o : List S62) (ho : o.length ≤ 10000) (p t : List Int) (c : Int) (hc1 : c ≠ 1) (he : b = p ++ c :: t) :
    (SR b o (p.length : Int) ([], false) ∧ IR b o (p.length : Int) ([], false)) ∨
    ∃ s cs t2, c :: t = cs ++ t2 ∧ 0 < cs.length ∧ s.f3.length ≤ 1048576 ∧ o.length + 1 ≤ 10000 ∧ (∀ r, SR b (o ++ [s]) ((p ++ cs).length : Int) r → SR b o (p.length : Int) r) ∧
      ((Good [s] cs ∧ ∀ r, IR b (o ++ [s]) ((p ++ cs).length : Int) r → IR b o (p.length : Int) r) ∨ ((Less [s] cs ∨ Bad [s]) ∧ IR b o (p.length : Int) ([], false))) := by
  have hl : b.length = p.length + t.length + 1 := by rw [he]; simp; omega
  have hr : rd b (p.length : Int) = c := by rw [he]; exact rdAt p t c
  have hcw := hw c (by rw [he]; simp)
  have he1 : b = (p ++ [c]) ++ t := by rw [he]; simp
  have hup : wrap64 ((p.length : Int) + 1) = ((p ++ [c]).length : Int) := by rw [List.length_append, List.length_singleton]; exact upN _ (by omega)
  have hw1 : wrap64 c = c := w64 c (by omega) (by omega)
  have hol : ∀ s : S62, (o ++ [s]).length = o.length + 1 := fun s => by simp
  have spc : ∀ (r : List S62 × Bool), Ev (fun k => (spec_l10ReadText.f k b ((p ++ [c]).length : Int) false).bind fun bt182 => (if o.length < 2932031007402 then ((some (o ++ [(⟨c, 0, 0, (bytesL bt182.1)⟩ : S62)] : List (S62))).bind fun y188 => (if (y188.length : Int) > 10000 then (some (([] : List S62), false)) else (spec_ReadDelta.l0 k b ([] : List S62) y188 b bt182.2.1 bt182.2.2))) else (none))) r → SR b o (p.length : Int) r := by
    intro r h
    refine SR_in b o p t c he r (Ev.step ?_)
    simp only [spec_ReadDelta.j2, hr, hup, hw1]
    exact Ev.pos trivial (Ev.pos (by omega) (Ev.pos (by omega) (Ev.neg hc1 h)))
  have other : c ≠ 2 → IR b o (p.length : Int) ([], false) := by
    intro h2
    refine Ev.step ?_
    simp only [impl_ReadDelta.l0, hr, hup]
    exact Ev.pos (by omega) (Ev.pos (by omega) (Ev.neg hc1 (Ev.neg h2 Ev.pure)))
  have imp : c = 2 → ∀ (r : List S62 × Bool) (v q : Int) (ok : Bool), Ev (fun k => rdNum k b ((p ++ [c]).length : Int) 0 0) (v, ok, q) →
      Ev (fun k => (if ok = true then (if v = 0 then (impl_ReadDelta.j2 k b q o v true) else (impl_ReadDelta.j2 k b q o v (decide (v > (wrap64 ((b.length : Int) - q)))))) else (impl_ReadDelta.j2 k b q o v true))) r → IR b o (p.length : Int) r := by
    intro h2 r v q ok r1 h
    refine Ev.step ?_
    simp only [impl_ReadDelta.l0, hr, hup]
    exact Ev.pos (by omega) (Ev.pos (by omega) (Ev.neg hc1 (Ev.pos h2 (Ev.bind (place_of r1) (Ev.bind (value_of r1) h)))))
  rcases text_both b hb hw (p ++ [c]) t he1 with ⟨ds, dt, t', h1, g1, l1, hd, s1, i1⟩ | ⟨q, t', h1, s1, n, ok, i1, hn⟩
  · have hbt : bytesL (strOfNums dt) = dt := bytesL_str dt (fun x hx => hw x (by rw [he1, h1]; simp [hx]))
    have v1 := dval_four ds g1 l1
    have htl : t.length = ds.length + dt.length + t'.length := by rw [h1]; simp; omega
    have hpl : (p ++ [c] ++ ds).length = p.length + 1 + ds.length := by simp; omega
    have e1 : wrap64 ((b.length : Int) - ((p ++ [c] ++ ds).length : Int)) = ((dt.length + t'.length : Nat) : Int) := by rw [w64 _ (by omega) (by omega)]; omega
    have gt : decide (dval ds > wrap64 ((b.length : Int) - ((p ++ [c] ++ ds).length : Int))) = false := by rw [e1]; exact decide_eq_false (by omega)
    by_cases cO : o.length + 1 > 10000
    · have hS : SR b o (p.length : Int) ([], false) := spc _ (Ev.bind s1 (Ev.pos (by omega) (Ev.cons rfl (Ev.pos (by rw [hol]; omega) Ev.pure))))
      refine .inl ⟨hS, ?_⟩
      by_cases h2 : c = 2
      · refine imp h2 _ _ _ _ i1 ?_
        by_cases a : mnD ds = true
        · refine Ev.pos a ?_
          by_cases z : dval ds = 0
          · exact Ev.pos z (j2_fail b _ _ _)
          · refine Ev.neg z ?_
            rw [gt]
            have e2 : wrap64 (((p ++ [c] ++ ds).length : Int) + dval ds) = ((p ++ [c] ++ ds ++ dt).length : Int) := by
              rw [@List.length_append _ (p ++ [c] ++ ds), w64 _ (by omega) (by omega)]; omega
            have hll : (p ++ [c] ++ ds ++ dt).length = p.length + 1 + ds.length + dt.length := by rw [@List.length_append _ (p ++ [c] ++ ds)]; omega
            refine Ev.step ?_
            simp only [impl_ReadDelta.j2, e2]
            exact Ev.neg (by simp) (Ev.cons rfl (Ev.pos (by omega) (Ev.pos (by omega) (Ev.pos (by omega) (Ev.pos (by simp; omega) (Ev.pos (by omega) (Ev.cons rfl (Ev.pos (by rw [hol]; omega) Ev.pure))))))))
        · exact Ev.neg a (j2_fail b _ _ _)
      · exact other h2
    · refine .inr ⟨⟨c, 0, 0, dt⟩, c :: (ds ++ dt), t', by rw [h1]; simp, by simp, by show dt.length ≤ 1048576; omega, by omega, fun r hS => ?_, ?_⟩
      · have e : p ++ c :: (ds ++ dt) = p ++ [c] ++ ds ++ dt := by simp
        rw [e] at hS
        refine spc _ (Ev.bind s1 ?_)
        simp only [hbt]
        exact Ev.pos (by omega) (Ev.cons rfl (Ev.neg (by rw [hol]; omega) hS))
      · by_cases h2 : c = 2
        · by_cases z : dval ds = 0
          · refine .inr ⟨.inr ⟨_, List.mem_singleton.2 rfl, fun hk => ?_⟩, imp h2 _ _ _ _ i1 ?_⟩
            · rcases hk with ⟨h, _⟩ | ⟨_, _, _, h⟩
              · exact hc1 h
              · have h : 0 < dt.length := h
                omega
            · by_cases a : mnD ds = true
              · exact Ev.pos a (Ev.pos z (j2_fail b _ _ _))
              · exact Ev.neg a (j2_fail b _ _ _)
          · have okk : okS ⟨c, 0, 0, dt⟩ := .inr ⟨h2, rfl, rfl, by show 0 < dt.length; omega⟩
            have ho1 : ∀ out : List Int, (out ++ [(2 : Int)]).length = out.length + 1 := fun out => by simp
            have hcl : (c :: (ds ++ dt)).length = 1 + ds.length + dt.length := by simp; omega
            by_cases a : mnD ds = true
            · refine .inl ⟨fun out hout => ?_, fun r hI => ?_⟩
              · obtain ⟨r1, e1, _, e2, _⟩ := enc_dig ds g1 l1 (out ++ [2]) (by rw [ho1]; omega)
                have e2 := e2 a
                subst e2
                rw [← hd] at e1
                refine ⟨_, ⟨okk, out ++ [2] ++ ds, by simp, ?_, .inr ⟨h2, e1, rfl⟩⟩, ?_⟩
                · show (out ++ [2] ++ ds).length ≤ (out ++ [2] ++ ds ++ dt).length
                  rw [@List.length_append _ (out ++ [2] ++ ds)]; omega
                · show out ++ c :: (ds ++ dt) = out ++ [2] ++ ds ++ dt
                  rw [h2]; simp
              · have e : p ++ c :: (ds ++ dt) = p ++ [c] ++ ds ++ dt := by simp
                rw [e] at hI
                refine imp h2 _ _ _ _ i1 (Ev.pos a (Ev.neg z ?_))
                rw [gt]
                have e2 : wrap64 (((p ++ [c] ++ ds).length : Int) + dval ds) = ((p ++ [c] ++ ds ++ dt).length : Int) := by
                  rw [@List.length_append _ (p ++ [c] ++ ds), w64 _ (by omega) (by omega)]; omega
                have hll : (p ++ [c] ++ ds ++ dt).length = p.length + 1 + ds.length + dt.length := by rw [@List.length_append _ (p ++ [c] ++ ds)]; omega
                have e4 : (b.take (p ++ [c] ++ ds ++ dt).length).drop (p ++ [c] ++ ds).length = dt := by
                  rw [he1, h1, ← List.append_assoc, ← List.append_assoc, List.take_left' rfl, List.drop_left' rfl]
                refine Ev.step ?_
                simp only [impl_ReadDelta.j2, e2, Int.toNat_natCast, e4]
                rw [h2] at hI
                exact Ev.neg (by simp) (Ev.cons rfl (Ev.pos (by omega) (Ev.pos (by omega) (Ev.pos (by omega) (Ev.pos (by simp; omega) (Ev.pos (by omega) (Ev.cons rfl (Ev.neg (by rw [hol]; omega) (by unfold IR at hI; simpa [h2] using hI)))))))))
            · refine .inr ⟨.inl fun out hout => ?_, imp h2 _ _ _ _ i1 (Ev.neg a (j2_fail b _ _ _))⟩
              obtain ⟨r1, e1, e1l, _, e2⟩ := enc_dig ds g1 l1 (out ++ [2]) (by rw [ho1]; omega)
              have e2 := e2 (by cases hq : mnD ds
                                · rfl
                                · exact absurd hq a)
              rw [← hd] at e1
              rw [ho1] at e1l e2
              exact ⟨r1 ++ dt, ⟨_, ⟨okk, r1, by omega, by simp, .inr ⟨h2, e1, rfl⟩⟩, rfl⟩, by rw [List.length_append]; omega⟩
        · exact .inr ⟨.inr ⟨_, List.mem_singleton.2 rfl, fun hk => by
            rcases hk with ⟨h, _⟩ | ⟨h, _⟩
            · exact hc1 h
            · exact h2 h⟩, other h2⟩
  · refine .inl ⟨spc _ (Ev.bind s1 (Ev.pos (by omega) (Ev.cons rfl ?_))), ?_⟩
    · by_cases cc : ((o ++ [(⟨c, 0, 0, bytesL (⟨#[]⟩ : ByteArray)⟩ : S62)]).length : Int) > 10000
      · exact Ev.pos cc Ev.pure
      · exact Ev.neg cc (spec_stop b _ q)
    · by_cases h2 : c = 2
      · refine imp h2 _ _ _ _ i1 ?_
        cases ok
        · exact Ev.neg (by simp) (j2_fail b _ _ _)
        · have hq : b.length = q.length + t'.length := by rw [h1]; simp
          have gt : decide (n > wrap64 ((b.length : Int) - (q.length : Int))) = true := by
            rw [w64 _ (by omega) (by omega)]
            exact decide_eq_true (hn rfl)
          rw [gt]
          by_cases z : n = 0
          · exact Ev.pos rfl (Ev.pos z (j2_fail b _ _ _))
          · exact Ev.pos rfl (Ev.neg z (j2_fail b _ _ _))
      · exact other h2
/-- One step on both sides. -/
theorem step_both (o : List S62) (ho : o.length ≤ 10000) (p t : List Int) (c : Int) (he : b = p ++ c :: t) :
    (SR b o (p.length : Int) ([], false) ∧ IR b o (p.length : Int) ([], false)) ∨
    ∃ s cs t2, c :: t = cs ++ t2 ∧ 0 < cs.length ∧ s.f3.length ≤ 1048576 ∧ o.length + 1 ≤ 10000 ∧ (∀ r, SR b (o ++ [s]) ((p ++ cs).length : Int) r → SR b o (p.length : Int) r) ∧
      ((Good [s] cs ∧ ∀ r, IR b (o ++ [s]) ((p ++ cs).length : Int) r → IR b o (p.length : Int) r) ∨ ((Less [s] cs ∨ Bad [s]) ∧ IR b o (p.length : Int) ([], false))) := by
  by_cases h : c = 1
  · subst h
    exact step_copy b hb hw o ho p t he
  · exact step_text b hb hw o ho p t c h he
end

-- ReadBack
/-- A number whose digits are there is read. -/
theorem rd_fwd (b : List Int) (hb : b.length ≤ 1048576) (hw : ∀ c ∈ b, 0 ≤ c ∧ c < 256) : ∀ d : Nat, d ≤ 4 → ∀ (ds p t : List Int) (acc : Int), b = p ++ (ds ++ t) → Dig ds → ds.length ≤ d → 0 ≤ acc → acc < 2 ^ (28 - 7 * d) →
    Ev (fun k => rdNum k b (p.length : Int) acc ((28 - 7 * d : Nat) : Int)) (acc + dval ds * 2 ^ (28 - 7 * d), lastNZ ds || (((28 - 7 * d : Nat) : Int) == 0 && ds.length == 1), ((p ++ ds).length : Int))
  | 0, _, ds, p, t, acc, he, hD, hl, h0, h1 => by
    have := hD.pos
    omega
  | d + 1, hd, [], p, t, acc, he, hD, hl, h0, h1 => hD.elim
  | d + 1, hd, c :: u, p, t, acc, he, hD, hl, h0, h1 => by
    have hlb : b.length = p.length + u.length + t.length + 1 := by rw [he]; simp; omega
    have hc := hw c (by rw [he]; simp)
    have hr : rd b (p.length : Int) = c := by rw [he]; exact rdAt p (u ++ t) c
    obtain ⟨s, hs⟩ : ∃ s, s = 28 - 7 * (d + 1) := ⟨_, rfl⟩
    have h21 : s ≤ 21 := by omega
    have hshU : Unit → s + 7 ≤ 28 → ((28 - 7 * d : Nat) : Int) = wrap64 ((s : Int) + 7) := fun _ _ => by rw [w64 _ (by omega) (by omega)]; omega
    rw [← hs] at h1 ⊢
    have hx : shl .i64 (wrap64 (Go.bits .and .u8 c 127)) (s : Int) = c % 128 * 2 ^ s := by
      rw [and127b c hc.1 hc.2, w64 _ (by omega) (by omega)]
      exact shl_up _ s h21 (by omega) (by omega)
    have hor : Go.bits .or .i64 acc (c % 128 * 2 ^ s) = acc + c % 128 * 2 ^ s := or_up acc _ s h21 h0 h1 (by omega) (by omega)
    have hp0 : (0 : Int) < 2 ^ s := by
      have := Nat.two_pow_pos s
      exact_mod_cast this
    have hx0 : 0 ≤ c % 128 * 2 ^ s := Int.mul_nonneg (by omega) (by omega)
    have hx1 : c % 128 * 2 ^ s ≤ 127 * 2 ^ s := Int.mul_le_mul_of_nonneg_right (by omega) (by omega)
    have hup : wrap64 ((p.length : Int) + 1) = ((p ++ [c]).length : Int) := by rw [List.length_append, List.length_singleton]; exact upN _ (by omega)
    cases u with
    | nil =>
      obtain ⟨_, c9⟩ : 0 ≤ c ∧ c < 128 := hD
      have e : dval [c] = c % 128 := by simp [dval]
      have e2 : (lastNZ [c] || ((s : Int) == 0 && ([c] : List Int).length == 1)) = (!(c == 0) || (s : Int) == 0) := by simp [lastNZ]
      rw [e, e2]
      refine Ev.step ?_
      simp only [rdNum, hr, hx, hor, hup]
      exact Ev.pos (by omega) (Ev.pos (by omega) (Ev.pos (by omega) (Ev.pos (by omega) (Ev.pos c9 Ev.pure))))
    | cons x y =>
      obtain ⟨c9, _, hD2⟩ : 128 ≤ c ∧ c < 256 ∧ Dig (x :: y) := hD
      have hl2 : (x :: y).length ≤ d := by simp at hl ⊢; omega
      have hpos : 0 < (x :: y).length := by simp
      have h28 : s + 7 ≤ 28 := by omega
      have h7 : 28 - 7 * d = s + 7 := by omega
      have hsh := fun w : Unit => hshU w h28
      have hbound : acc + c % 128 * 2 ^ s < 2 ^ (28 - 7 * d) := by
        rw [h7, Int.pow_add]
        rw [show (2 : Int) ^ 7 = 128 by decide]
        omega
      have ih := rd_fwd b hb hw d (by omega) (x :: y) (p ++ [c]) t (acc + c % 128 * 2 ^ s) (by rw [he]; simp) hD2 hl2 (by omega) hbound
      have ev : acc + dval (c :: x :: y) * 2 ^ s = acc + c % 128 * 2 ^ s + dval (x :: y) * 2 ^ (28 - 7 * d) := by
        rw [h7, Int.pow_add, show dval (c :: x :: y) = c % 128 + 128 * dval (x :: y) from rfl, Int.add_mul, show (2 : Int) ^ 7 = 128 by decide]
        rw [Int.mul_comm (2 ^ s) 128, ← Int.mul_assoc, Int.mul_comm (dval (x :: y)) 128]
        omega
      have el : p ++ c :: x :: y = p ++ [c] ++ (x :: y) := by simp
      have hz : (((28 - 7 * d : Nat) : Int) == 0) = false := by simp; omega
      rw [hz, Bool.false_and, Bool.or_false] at ih
      have e2 : (lastNZ (c :: x :: y) || ((s : Int) == 0 && (c :: x :: y).length == 1)) = lastNZ (x :: y) := by
        have : ((c :: x :: y).length == 1) = false := by simp
        rw [this, Bool.and_false, Bool.or_false]; rfl
      rw [ev, el, e2]
      refine Ev.step ?_
      simp only [rdNum, hr, hx, hor, hup, ← hsh ()]
      exact Ev.pos (by omega) (Ev.pos (by omega) (Ev.pos (by omega) (Ev.pos (by omega) (Ev.neg (by omega) ih))))
theorem rd_there (b : List Int) (hb : b.length ≤ 1048576) (hw : ∀ c ∈ b, 0 ≤ c ∧ c < 256) (ds p t : List Int) (he : b = p ++ (ds ++ t)) (hD : Dig ds) (hl : ds.length ≤ 4) : Ev (fun k => rdNum k b (p.length : Int) 0 0) (dval ds, mnD ds, ((p ++ ds).length : Int)) := by
  have := rd_fwd b hb hw 4 (by omega) ds p t 0 he hD hl (by omega) (by decide)
  simpa [mnD] using this
/-- Every number has digits. -/
theorem digs (d : Nat) : ∀ n : Int, 0 ≤ n → n < 128 ^ (d + 1) → ∃ ds, Dig ds ∧ ds.length ≤ d + 1 ∧ dval ds = n ∧ mnD ds = true ∧ (∀ c ∈ ds, 0 ≤ c ∧ c < 256) ∧ (1 ≤ n → lastNZ ds = true) := by
  induction d with
  | zero =>
    intro n h0 h1
    have h1 : n < 128 := by simpa using h1
    refine ⟨[n], ⟨h0, h1⟩, by simp, by simp [dval]; omega, by simp [mnD], fun c hc => ?_, fun h => by simp [lastNZ]; omega⟩
    rw [List.mem_singleton.1 hc]
    omega
  | succ d ih =>
    intro n h0 h1
    by_cases c : n < 128
    · refine ⟨[n], ⟨h0, c⟩, by simp, by simp [dval]; omega, by simp [mnD], fun c hc => ?_, fun h => by simp [lastNZ]; omega⟩
      rw [List.mem_singleton.1 hc]
      omega
    · have hp : (128 : Int) ^ (d + 1 + 1) = 128 ^ (d + 1) * 128 := Int.pow_succ 128 (d + 1)
      obtain ⟨ds, g1, g2, g3, g4, g5, g6⟩ := ih (n / 128) (by omega) (by omega)
      obtain ⟨x, y, rfl⟩ : ∃ x y, ds = x :: y := by
        cases ds with
        | nil => exact g1.elim
        | cons x y => exact ⟨x, y, rfl⟩
      have g7 := g6 (by omega)
      refine ⟨(n % 128 + 128) :: x :: y, ⟨by omega, by omega, g1⟩, by simp at g2 ⊢; omega, ?_, ?_, fun c hc => ?_, fun _ => g7⟩
      · rw [show dval ((n % 128 + 128) :: x :: y) = (n % 128 + 128) % 128 + 128 * dval (x :: y) from rfl, g3]
        omega
      · unfold mnD
        rw [show lastNZ ((n % 128 + 128) :: x :: y) = lastNZ (x :: y) from rfl, g7]
        rfl
      · rcases List.mem_cons.1 hc with rfl | hc
        · omega
        · exact g5 c hc
theorem digs4 (n : Int) (h0 : 0 ≤ n) (h1 : n ≤ 268435455) : ∃ ds, Dig ds ∧ ds.length ≤ 4 ∧ dval ds = n ∧ mnD ds = true ∧ ∀ c ∈ ds, 0 ≤ c ∧ c < 256 := by
  obtain ⟨ds, g1, g2, g3, g4, g5, _⟩ := digs 3 n h0 (by rw [show (128 : Int) ^ (3 + 1) = 268435456 by decide]; omega)
  exact ⟨ds, g1, g2, g3, g4, g5⟩
section
variable (b : List Int) (hb : b.length ≤ 1048576) (hw : ∀ c ∈ b, 0 ≤ c ∧ c < 256)
include hb hw
theorem IR_copy (o : List S62) (ho : o.length + 1 ≤ 10000) (p t ds1 ds2 : List Int) (he : b = p ++ (1 :: (ds1 ++ ds2) ++ t)) (g1 : Dig ds1) (l1 : ds1.length ≤ 4) (m1 : mnD ds1 = true) (g2 : Dig ds2) (l2 : ds2.length ≤ 4) (m2 : mnD ds2 = true) (hz : dval ds2 ≠ 0) (r : List S62 × Bool)
    (hI : IR b (o ++ [⟨1, dval ds1, dval ds2, []⟩]) ((p ++ 1 :: (ds1 ++ ds2)).length : Int) r) : IR b o (p.length : Int) r := by
  have hl : b.length = p.length + ds1.length + ds2.length + t.length + 1 := by rw [he]; simp; omega
  have hr : rd b (p.length : Int) = 1 := by rw [he]; exact rdAt p _ 1
  have hup : wrap64 ((p.length : Int) + 1) = ((p ++ [(1 : Int)]).length : Int) := by rw [List.length_append, List.length_singleton]; exact upN _ (by omega)
  have hol : ∀ s : S62, (o ++ [s]).length = o.length + 1 := fun s => by simp
  have i1 := rd_there b hb hw ds1 (p ++ [1]) (ds2 ++ t) (by rw [he]; simp) g1 l1
  have i2 := rd_there b hb hw ds2 (p ++ [1] ++ ds1) t (by rw [he]; simp) g2 l2
  have e : p ++ 1 :: (ds1 ++ ds2) = p ++ [1] ++ ds1 ++ ds2 := by simp
  rw [e] at hI
  have hzb : (dval ds2 == 0) = false := by simp [hz]
  refine Ev.step ?_
  simp only [impl_ReadDelta.l0, hr, hup]
  refine Ev.pos (by omega) (Ev.pos (by omega) (Ev.pos trivial (Ev.bind (place_of i1) (Ev.bind (value_of i1) (Ev.bind (place_of i2) (Ev.bind (value_of i2) (Ev.pos m1 (Ev.pos m2 ?_))))))))
  rw [hzb]
  refine Ev.step ?_
  simp only [impl_ReadDelta.j1]
  exact Ev.neg (by simp) (Ev.pos (by omega) (Ev.cons rfl (Ev.neg (by rw [hol]; omega) hI)))
theorem IR_text (o : List S62) (ho : o.length + 1 ≤ 10000) (p t ds dt : List Int) (he : b = p ++ (2 :: (ds ++ dt) ++ t)) (g1 : Dig ds) (l1 : ds.length ≤ 4) (m1 : mnD ds = true) (hd : (dt.length : Int) = dval ds) (hz : 0 < dt.length) (r : List S62 × Bool)
    (hI : IR b (o ++ [⟨2, 0, 0, dt⟩]) ((p ++ 2 :: (ds ++ dt)).length : Int) r) : IR b o (p.length : Int) r := by
  have hl : b.length = p.length + ds.length + dt.length + t.length + 1 := by rw [he]; simp; omega
  have hr : rd b (p.length : Int) = 2 := by rw [he]; exact rdAt p _ 2
  have hup : wrap64 ((p.length : Int) + 1) = ((p ++ [(2 : Int)]).length : Int) := by rw [List.length_append, List.length_singleton]; exact upN _ (by omega)
  have hol : ∀ s : S62, (o ++ [s]).length = o.length + 1 := fun s => by simp
  have i1 := rd_there b hb hw ds (p ++ [2]) (dt ++ t) (by rw [he]; simp) g1 l1
  have e : p ++ 2 :: (ds ++ dt) = p ++ [2] ++ ds ++ dt := by simp
  rw [e] at hI
  have hv := dval_four ds g1 l1
  have hpl : (p ++ [2] ++ ds).length = p.length + 1 + ds.length := by simp; omega
  have gt : decide (dval ds > wrap64 ((b.length : Int) - ((p ++ [2] ++ ds).length : Int))) = false := by
    rw [w64 _ (by omega) (by omega)]
    exact decide_eq_false (by omega)
  have e2 : wrap64 (((p ++ [2] ++ ds).length : Int) + dval ds) = ((p ++ [2] ++ ds ++ dt).length : Int) := by
    rw [@List.length_append _ (p ++ [2] ++ ds), w64 _ (by omega) (by omega)]; omega
  have hll : (p ++ [2] ++ ds ++ dt).length = p.length + 1 + ds.length + dt.length := by rw [@List.length_append _ (p ++ [2] ++ ds)]; omega
  have e4 : (b.take (p ++ [2] ++ ds ++ dt).length).drop (p ++ [2] ++ ds).length = dt := by
    have : b = p ++ [2] ++ ds ++ (dt ++ t) := by rw [he]; simp
    rw [this, ← List.append_assoc, List.take_left' rfl, List.drop_left' rfl]
  refine Ev.step ?_
  simp only [impl_ReadDelta.l0, hr, hup]
  refine Ev.pos (by omega) (Ev.pos (by omega) (Ev.neg (by decide) (Ev.pos trivial (Ev.bind (place_of i1) (Ev.bind (value_of i1) (Ev.pos m1 (Ev.neg (by show ¬ dval ds = 0; omega) ?_)))))))
  simp only [gt]
  refine Ev.step ?_
  simp only [impl_ReadDelta.j2, e2, Int.toNat_natCast, e4]
  exact Ev.neg (by simp) (Ev.cons rfl (Ev.pos (by omega) (Ev.pos (by omega) (Ev.pos (by omega) (Ev.pos (by simp; omega) (Ev.pos (by omega) (Ev.cons rfl (Ev.neg (by rw [hol]; omega) (by unfold IR at hI; simpa using hI)))))))))
end

-- ReadG
theorem Good.nil : Good [] [] := fun out _ => by
  show out ++ [] = out
  simp
theorem Bad.app {a b : List S62} (h : Bad a ∨ Bad b) : Bad (a ++ b) := by
  rcases h with ⟨s, h1, h2⟩ | ⟨s, h1, h2⟩
  · exact ⟨s, List.mem_append_left _ h1, h2⟩
  · exact ⟨s, List.mem_append_right _ h1, h2⟩
section
variable (b : List Int) (hb : b.length ≤ 1048576) (hw : ∀ c ∈ b, 0 ≤ c ∧ c < 256)
include hb hw
theorem spec_main (n : Nat) : ∀ (p t : List Int) (o : List S62), t.length ≤ n → b = p ++ t → o.length ≤ 10000 →
    SR b o (p.length : Int) ([], false) ∨ ∃ new, (o ++ new).length ≤ 10000 ∧ (∀ s ∈ new, s.f3.length ≤ 1048576) ∧ (Good new t ∨ Less new t ∨ Bad new) ∧ ∀ r, SR b (o ++ new) (b.length : Int) r → SR b o (p.length : Int) r := by
  induction n with
  | zero =>
    intro p t o ht he ho
    obtain rfl : t = [] := List.length_eq_zero_iff.1 (by omega)
    exact .inr ⟨[], by simpa using ho, by simp, .inl Good.nil, fun r h => by rw [he] at h ⊢; simpa using h⟩
  | succ n ih =>
    intro p t o ht he ho
    cases t with
    | nil => exact .inr ⟨[], by simpa using ho, by simp, .inl Good.nil, fun r h => by rw [he] at h ⊢; simpa using h⟩
    | cons c t =>
      rcases step_both b hb hw o ho p t c he with ⟨h, _⟩ | ⟨s, cs, t2, h1, h2, h3, h4, h5, h6⟩
      · exact .inl h
      · have hlen : (c :: t).length = cs.length + t2.length := by rw [h1]; simp
        rcases ih (p ++ cs) t2 (o ++ [s]) (by omega) (by rw [he, h1]; simp) (by simp; omega) with g | ⟨new, g1, g2, g3, g4⟩
        · exact .inl (h5 _ g)
        · rw [List.append_assoc, List.singleton_append] at g1
          refine .inr ⟨s :: new, g1, fun x hx => ?_, ?_, fun r hr => h5 r (g4 r (by rw [List.append_assoc, List.singleton_append]; exact hr))⟩
          · rcases List.mem_cons.1 hx with rfl | hx
            · exact h3
            · exact g2 x hx
          · rw [h1, show s :: new = [s] ++ new from rfl]
            rcases g3 with g3 | g3 | g3
            · rcases h6 with ⟨h6, _⟩ | ⟨h6 | h6, _⟩
              · exact .inl (h6.app g3)
              · exact .inr (.inl (h6.good (.inl g3)))
              · exact .inr (.inr (Bad.app (.inl h6)))
            · rcases h6 with ⟨h6, _⟩ | ⟨h6 | h6, _⟩
              · exact .inr (.inl (h6.less g3))
              · exact .inr (.inl (h6.good (.inr g3)))
              · exact .inr (.inr (Bad.app (.inl h6)))
            · exact .inr (.inr (Bad.app (.inr g3)))
theorem both_main (n : Nat) : ∀ (p t : List Int) (o : List S62), t.length ≤ n → b = p ++ t → o.length ≤ 10000 →
    (∃ new, (o ++ new).length ≤ 10000 ∧ (∀ s ∈ new, s.f3.length ≤ 1048576) ∧ Good new t ∧ (∀ r, SR b (o ++ new) (b.length : Int) r → SR b o (p.length : Int) r) ∧ IR b o (p.length : Int) (o ++ new, true)) ∨
    (IR b o (p.length : Int) ([], false) ∧ (SR b o (p.length : Int) ([], false) ∨ ∃ new, (o ++ new).length ≤ 10000 ∧ (∀ s ∈ new, s.f3.length ≤ 1048576) ∧ (Less new t ∨ Bad new) ∧ ∀ r, SR b (o ++ new) (b.length : Int) r → SR b o (p.length : Int) r)) := by
  have fin : ∀ (p : List Int) (o : List S62), b = p ++ [] → IR b o (p.length : Int) (o ++ [], true) := by
    intro p o he
    have hl : b.length = p.length := by rw [he]; simp
    refine Ev.step ?_
    simp only [impl_ReadDelta.l0, List.append_nil]
    exact Ev.neg (by omega) Ev.pure
  induction n with
  | zero =>
    intro p t o ht he ho
    obtain rfl : t = [] := List.length_eq_zero_iff.1 (by omega)
    exact .inl ⟨[], by simpa using ho, by simp, Good.nil, fun r h => by rw [he] at h ⊢; simpa using h, fin p o he⟩
  | succ n ih =>
    intro p t o ht he ho
    cases t with
    | nil => exact .inl ⟨[], by simpa using ho, by simp, Good.nil, fun r h => by rw [he] at h ⊢; simpa using h, fin p o he⟩
    | cons c t =>
      rcases step_both b hb hw o ho p t c he with ⟨h, h'⟩ | ⟨s, cs, t2, h1, h2, h3, h4, h5, h6⟩
      · exact .inr ⟨h', .inl h⟩
      have hlen : (c :: t).length = cs.length + t2.length := by rw [h1]; simp
      have mem : ∀ new : List S62, (∀ x ∈ new, x.f3.length ≤ 1048576) → ∀ x ∈ s :: new, x.f3.length ≤ 1048576 := fun new g x hx => by
        rcases List.mem_cons.1 hx with rfl | hx
        · exact h3
        · exact g x hx
      have he2 : b = (p ++ cs) ++ t2 := by rw [he, h1]; simp
      rcases h6 with ⟨h6, h7⟩ | ⟨h6, h7⟩
      · rcases ih (p ++ cs) t2 (o ++ [s]) (by omega) he2 (by simp; omega) with ⟨new, g1, g2, g3, g4, g5⟩ | ⟨g5, g | ⟨new, g1, g2, g3, g4⟩⟩
        · rw [List.append_assoc, List.singleton_append] at g1 g5
          refine .inl ⟨s :: new, g1, mem new g2, ?_, fun r hr => h5 r (g4 r (by rw [List.append_assoc, List.singleton_append]; exact hr)), h7 _ g5⟩
          rw [h1, show s :: new = [s] ++ new from rfl]
          exact h6.app g3
        · exact .inr ⟨h7 _ g5, .inl (h5 _ g)⟩
        · rw [List.append_assoc, List.singleton_append] at g1
          refine .inr ⟨h7 _ g5, .inr ⟨s :: new, g1, mem new g2, ?_, fun r hr => h5 r (g4 r (by rw [List.append_assoc, List.singleton_append]; exact hr))⟩⟩
          rw [h1, show s :: new = [s] ++ new from rfl]
          rcases g3 with g3 | g3
          · exact .inl (h6.less g3)
          · exact .inr (Bad.app (.inr g3))
      · refine .inr ⟨h7, ?_⟩
        rcases spec_main b hb hw n (p ++ cs) t2 (o ++ [s]) (by omega) he2 (by simp; omega) with g | ⟨new, g1, g2, g3, g4⟩
        · exact .inl (h5 _ g)
        · rw [List.append_assoc, List.singleton_append] at g1
          refine .inr ⟨s :: new, g1, mem new g2, ?_, fun r hr => h5 r (g4 r (by rw [List.append_assoc, List.singleton_append]; exact hr))⟩
          rw [h1, show s :: new = [s] ++ new from rfl]
          rcases h6 with h6 | h6
          · rcases g3 with g3 | g3 | g3
            · exact .inl (h6.good (.inl g3))
            · exact .inl (h6.good (.inr g3))
            · exact .inr (Bad.app (.inr g3))
          · exact .inr (Bad.app (.inl h6))
end

-- ReadH
section
variable (b : List Int) (hb : b.length ≤ 1048576) (hw : ∀ c ∈ b, 0 ≤ c ∧ c < 256)
include hb
omit hb in
/-- At the end: what is read is kept if its bytes are what was read. -/
theorem spec_end (o : List S62) (q : List Int) (hq : Ev (fun k => spec_DeltaBytes.f k o) q) (z : Bool) (hz : ((strOfNums q).toList == (strOfNums b).toList) = z) : SR b o (b.length : Int) (if z = true then (o, true) else ([], false)) := by
  refine Ev.step ?_
  simp only [spec_ReadDelta.l0]
  refine Ev.neg (by omega) (Ev.step ?_)
  simp only [spec_ReadDelta.j2]
  refine Ev.neg (by simp) (Ev.neg (by simp) (Ev.bind hq ?_))
  refine Ev.cons (a := z) (by unfold spec_l10Same.f; rw [hz]) ?_
  cases z
  · exact Ev.neg (by simp) Ev.pure
  · exact Ev.pos rfl Ev.pure
omit hb in
theorem db_of (o : List S62) (ho : o.length ≤ 10000) (r : List Int) (h : Ev (fun k => spec_DeltaBytes.l0 k o [76, 68, 84, 49] 0) r) : Ev (fun k => spec_DeltaBytes.f k o) r := by
  unfold spec_DeltaBytes.f
  exact Ev.neg (by omega) h
omit hb in
theorem neq_len (q : List Int) (h : q.length < b.length) : ((strOfNums q).toList == (strOfNums b).toList) = false := by
  rw [beq_eq_false_iff_ne]
  intro e
  have := congrArg List.length e
  rw [Lib.toList_data, Lib.toList_data, strOfNums_data, strOfNums_data, List.length_map, List.length_map] at this
  omega
include hw
theorem read_body (t : List Int) (he : b = [76, 68, 84, 49] ++ t) : ∃ r ok, SR b [] 4 (r, ok) ∧ IR b [] 4 (r, ok) ∧ r.length ≤ 10000 ∧ ∀ s ∈ r, s.f3.length ≤ 1048576 := by
  have hl : b.length = t.length + 4 := by rw [he]; simp
  rcases both_main b hb hw t.length [76, 68, 84, 49] t [] (Nat.le_refl _) he (by simp) with ⟨new, g1, g2, g3, g4, g5⟩ | ⟨g5, g | ⟨new, g1, g2, g3, g4⟩⟩
  · rw [List.nil_append] at g1 g4 g5
    have hr := run_db new (by omega) new [] [76, 68, 84, 49] ([76, 68, 84, 49] ++ t) rfl (g3 _ (by simp; omega)) (by simp; omega) g2
    rw [← he] at hr
    have := spec_end b new b (db_of new (by omega) b hr) true (by simp)
    exact ⟨new, true, g4 _ (by simpa using this), g5, by omega, g2⟩
  · exact ⟨[], false, g, g5, by simp, by simp⟩
  · rw [List.nil_append] at g1 g4
    refine ⟨[], false, g4 _ ?_, g5, by simp, by simp⟩
    by_cases hbad : Bad new
    · have hr := bad_db new (by omega) g2 new [] [76, 68, 84, 49] rfl hbad (by simp)
      have := spec_end b new [] (db_of new (by omega) [] hr) false (neq_len b [] (by simp; omega))
      simpa using this
    · have g3 : Less new t := by
        rcases g3 with g3 | g3
        · exact g3
        · exact absurd g3 hbad
      obtain ⟨q, h1, h2⟩ := g3 [76, 68, 84, 49] (by simp; omega)
      have h2 : q.length < b.length := by rw [hl]; simpa [Nat.add_comm] using h2
      have hr := run_db new (by omega) new [] [76, 68, 84, 49] q rfl h1 (by omega) g2
      have := spec_end b new q (db_of new (by omega) q hr) false (neq_len b q h2)
      simpa using this
end

-- ReadI
section
variable (b : List Int) (hb : b.length ≤ 1048576) (hw : ∀ c ∈ b, 0 ≤ c ∧ c < 256)
include hb hw
theorem read_body2 (t : List Int) (he : b = [76, 68, 84, 49] ++ t) : ∃ r ok, SR b [] 4 (r, ok) ∧ IR b [] 4 (r, ok) ∧ r.length ≤ 10000 ∧ (∀ s ∈ r, s.f3.length ≤ 1048576) ∧ (ok = true → Ev (fun k => spec_DeltaBytes.f k r) b) := by
  have hl : b.length = t.length + 4 := by rw [he]; simp
  rcases both_main b hb hw t.length [76, 68, 84, 49] t [] (Nat.le_refl _) he (by simp) with ⟨new, g1, g2, g3, g4, g5⟩ | ⟨g5, g | ⟨new, g1, g2, g3, g4⟩⟩
  · rw [List.nil_append] at g1 g4 g5
    have hr := run_db new (by omega) new [] [76, 68, 84, 49] ([76, 68, 84, 49] ++ t) rfl (g3 _ (by simp; omega)) (by simp; omega) g2
    rw [← he] at hr
    have := spec_end b new b (db_of new (by omega) b hr) true (by simp)
    exact ⟨new, true, g4 _ (by simpa using this), g5, by omega, g2, fun _ => db_of new (by omega) b hr⟩
  · exact ⟨[], false, g, g5, by simp, by simp, by simp⟩
  · rw [List.nil_append] at g1 g4
    refine ⟨[], false, g4 _ ?_, g5, by simp, by simp, by simp⟩
    by_cases hbad : Bad new
    · have hr := bad_db new (by omega) g2 new [] [76, 68, 84, 49] rfl hbad (by simp)
      have := spec_end b new [] (db_of new (by omega) [] hr) false (neq_len b [] (by simp; omega))
      simpa using this
    · have g3 : Less new t := by
        rcases g3 with g3 | g3
        · exact g3
        · exact absurd g3 hbad
      obtain ⟨q, h1, h2⟩ := g3 [76, 68, 84, 49] (by simp; omega)
      have h2 : q.length < b.length := by rw [hl]; simpa [Nat.add_comm] using h2
      have hr := run_db new (by omega) new [] [76, 68, 84, 49] q rfl h1 (by omega) g2
      have := spec_end b new q (db_of new (by omega) q hr) false (neq_len b q h2)
      simpa using this
end
theorem take_str (b : List Int) : ((strOfNums b).extract 0 4).toList = (strOfNums (b.take 4)).toList := by
  rw [Lib.toList_data, Lib.toList_data, strOfNums_data, List.map_take]
  simp [strOfNums, ByteArray.data_extract]
theorem head_four (b : List Int) (hw : ∀ c ∈ b, 0 ≤ c ∧ c < 256) (h : (strOfNums (b.take 4)).toList = ([76, 68, 84, 49] : List UInt8)) : ∃ t, b = [76, 68, 84, 49] ++ t := by
  refine ⟨b.drop 4, ?_⟩
  have h2 := bytesL_str (b.take 4) (fun c hc => hw c (List.mem_of_mem_take hc))
  unfold bytesL at h2
  rw [← Lib.toList_data, h] at h2
  have h3 : b.take 4 = [76, 68, 84, 49] := by rw [← h2]; decide
  rw [← h3, List.take_append_drop]
theorem ReadDelta_ev2 (b : List Int) (hb : b.length ≤ 1048576) (hw : ∀ c ∈ b, 0 ≤ c ∧ c < 256) : ∃ r ok, Ev (fun k => spec_ReadDelta.f k b) (r, ok) ∧ Ev (fun k => impl_ReadDelta.f k b) (r, ok) ∧ r.length ≤ 10000 ∧ (∀ s ∈ r, s.f3.length ≤ 1048576) ∧ (ok = true → Ev (fun k => spec_DeltaBytes.f k r) b) := by
  have hs : (strOfNums b).size = b.length := strOfNums_size b
  have h4 : (⟨#[76, 68, 84, 49]⟩ : ByteArray).size = 4 := rfl
  have ht : (⟨#[76, 68, 84, 49]⟩ : ByteArray).toList = ([76, 68, 84, 49] : List UInt8) := by rw [Lib.toList_data]
  have no : Ev (fun k => spec_ReadDelta.j0 k b ([] : List S62) true) (([] : List S62), false) := by
    refine Ev.step ?_
    simp only [spec_ReadDelta.j0]
    exact Ev.pos trivial Ev.pure
  unfold spec_ReadDelta.f impl_ReadDelta.f
  by_cases hl : b.length < 4
  · have hp : strings_HasPrefix.f (strOfNums b) (⟨#[76, 68, 84, 49]⟩ : ByteArray) = some false := by
      unfold strings_HasPrefix.f stringslite_HasPrefix.f
      rw [if_neg (by rw [hs, h4]; omega)]; rfl
    exact ⟨[], false, Ev.cons rfl (Ev.pos (by omega) no), Ev.cons hp (Ev.neg (by simp) Ev.pure), by simp, by simp, by simp⟩
  obtain ⟨z, hz⟩ : ∃ z, z = ((strOfNums (b.take 4)).toList == ([76, 68, 84, 49] : List UInt8)) := ⟨_, rfl⟩
  have hp : strings_HasPrefix.f (strOfNums b) (⟨#[76, 68, 84, 49]⟩ : ByteArray) = some z := by
    unfold strings_HasPrefix.f stringslite_HasPrefix.f
    rw [if_pos (by rw [hs, h4]; omega), if_pos (by rw [h4]; omega), if_pos (by rw [hs, h4]; omega), h4]
    show (some (((strOfNums b).extract 0 4).toList == (⟨#[76, 68, 84, 49]⟩ : ByteArray).toList)).bind _ = _
    rw [take_str b, ht, ← hz]; rfl
  have hz2 : ((strOfNums (b.take 4)).toList != ([76, 68, 84, 49] : List UInt8)) = !z := by rw [hz]; rfl
  cases z with
  | false => exact ⟨[], false, Ev.cons rfl (Ev.neg (by omega) (Ev.pos (by omega) (by rw [hz2]; exact no))), Ev.cons hp (Ev.neg (by simp) Ev.pure), by simp, by simp, by simp⟩
  | true =>
    obtain ⟨t, he⟩ := head_four b hw (by simpa using hz.symm)
    obtain ⟨r, ok, h1, h2, h3, h5, h6⟩ := read_body2 b hb hw t he
    refine ⟨r, ok, Ev.cons rfl (Ev.neg (by omega) (Ev.pos (by omega) ?_)), Ev.cons hp (Ev.pos rfl h2), h3, h5, h6⟩
    rw [hz2]
    refine Ev.step ?_
    simp only [spec_ReadDelta.j0]
    exact Ev.neg (by simp) h1

-- DeltaC
theorem or128_all : ∀ c : Fin 128, Go.bits .or .u8 (c.val : Int) 128 = (c.val : Int) + 128 := by decide +kernel
theorem or128 (c : Int) (h0 : 0 ≤ c) (h1 : c < 128) : Go.bits .or .u8 c 128 = c + 128 := by
  have := or128_all ⟨c.toNat, by omega⟩
  simpa [Int.toNat_of_nonneg h0] using this
theorem and127 (x : Int) (h0 : 0 ≤ x) (h1 : x < 9223372036854775808) : Go.bits .and .i64 x 127 = x % 128 := by
  have := bits_mask .i64 63 (by decide) (fun n a b => i64w n (by omega) (by simpa using b)) 7 (by decide) x h0 (by simpa using h1)
  simpa using this
/-- A number in sevens: at most nine bytes. -/
theorem num_go (d : Nat) (hd : d ≤ 8) : ∀ (out : List Int) (n : Int), 0 ≤ n → n < 128 ^ d → out.length + d < 100000000000000 → ∃ r, Ev (fun k => spec_l10Num.l0 k out n) r ∧ Ev (fun k => impl_putSeven.l0 k out n) r ∧ r.length ≤ out.length + d + 1 := by
  induction d with
  | zero =>
    intro out n h0 h1 h2
    have hn : n < 128 := by simp at h1; omega
    refine ⟨out ++ [n % 256], Ev.step ?_, Ev.step ?_, by simp⟩
    · simp only [spec_l10Num.l0]
      exact Ev.neg (by omega) (Ev.pos (by omega) Ev.pure)
    · simp only [impl_putSeven.l0]
      exact Ev.neg (by omega) (Ev.pos (by omega) Ev.pure)
  | succ d ih =>
    intro out n h0 h1 h2
    by_cases c : n ≥ 128
    · have hp : (128 : Int) ^ (d + 1) = 128 ^ d * 128 := Int.pow_succ 128 d
      have hm : (128 : Int) ^ (d + 1) ≤ 128 ^ 8 := by
        have := Nat.pow_le_pow_right (n := 128) (by omega) hd
        exact_mod_cast this
      have hm2 : (128 : Int) ^ 8 = 72057594037927936 := by decide
      rw [hm2] at hm
      have hs : ∃ l : List Int, l = out ++ [n % 128 + 128] ∧ l.length = out.length + 1 := ⟨_, rfl, by simp⟩
      obtain ⟨l, hl, hll⟩ := hs
      obtain ⟨r, r1, r2, r3⟩ := ih (by omega) l (n / 128) (by omega) (by omega) (by omega)
      have e1 : Unit → (wrap64 ((Int.tmod n 128) + 128)) % 256 = n % 128 + 128 := fun _ => by
        rw [Int.tmod_eq_emod_of_nonneg h0, w64 _ (by omega) (by omega)]; omega
      have e2 : Unit → wrap64 (Int.tdiv n 128) = n / 128 := fun _ => by
        rw [Int.tdiv_eq_ediv_of_nonneg h0, w64 _ (by omega) (by omega)]
      have e3 : Unit → Go.bits .or .u8 ((Go.bits .and .i64 n 127) % 256) 128 = n % 128 + 128 := fun _ => by
        rw [and127 n h0 (by omega), Int.emod_eq_of_lt (by omega) (by omega), or128 _ (by omega) (by omega)]
      refine ⟨r, Ev.step ?_, Ev.step ?_, by omega⟩
      · simp only [spec_l10Num.l0, e1 (), e2 (), ← hl]
        exact Ev.pos c (Ev.pos (by omega) r1)
      · simp only [impl_putSeven.l0, e3 (), ← hl]
        exact Ev.pos (by omega) (Ev.pos (by omega) r2)
    · refine ⟨out ++ [n % 256], Ev.step ?_, Ev.step ?_, by rw [List.length_append, List.length_singleton]; omega⟩
      · simp only [spec_l10Num.l0]
        exact Ev.neg (by omega) (Ev.pos (by omega) Ev.pure)
      · simp only [impl_putSeven.l0]
        exact Ev.neg (by omega) (Ev.pos (by omega) Ev.pure)
theorem num_ev (out : List Int) (n : Int) (h0 : 0 ≤ n) (h1 : n < 72057594037927936) (h2 : out.length + 8 < 100000000000000) : ∃ r, Ev (fun k => spec_l10Num.f k out n) r ∧ Ev (fun k => impl_putSeven.f k out n) r ∧ r.length ≤ out.length + 9 := by
  unfold spec_l10Num.f impl_putSeven.f
  exact num_go 8 (by omega) out n h0 (by rw [show (128 : Int) ^ 8 = 72057594037927936 by decide]; exact h1) h2
theorem DeltaBytes_ev (ds : List S62) (hd : ds.length ≤ 1048576) (ok : ∀ s ∈ ds, s.f3.length ≤ 1048576) :
    ∃ r, Ev (fun k => spec_DeltaBytes.f k ds) r ∧ Ev (fun k => impl_DeltaBytes.f k ds) r ∧ r.length ≤ 50000000000 := by
  unfold spec_DeltaBytes.f impl_DeltaBytes.f
  by_cases c0 : (ds.length : Int) > 10000
  · exact ⟨[], Ev.pos c0 Ev.pure, Ev.pos c0 Ev.pure, by simp⟩
  have key := downTo ds.length (fun i => ∀ out : List Int, out.length ≤ 4 + i * 1048600 → ∃ r, Ev (fun k => spec_DeltaBytes.l0 k ds out (i : Int)) r ∧ Ev (fun k => impl_DeltaBytes.l0 k out ds (ds.length : Int) (i : Int)) r ∧ r.length ≤ 50000000000) ?_ ?_ 0 (by omega) [76, 68, 84, 49] (by simp)
  · obtain ⟨r, h1, h2, h3⟩ := key
    exact ⟨r, Ev.neg c0 h1, Ev.neg c0 h2, h3⟩
  · intro out ho
    refine ⟨out, Ev.step ?_, Ev.step ?_, by omega⟩
    · simp only [spec_DeltaBytes.l0]
      exact Ev.neg (by omega) Ev.pure
    · simp only [impl_DeltaBytes.l0]
      exact Ev.neg (by omega) Ev.pure
  · intro i hi ih out ho
    have hl := ok _ (List.getElem_mem hi)
    obtain ⟨ts, es, is⟩ := specStep (ds[i]).f0 (ds[i]).f1 (ds[i]).f2 (ds[i]).f3
    obtain ⟨ti, ei, ii⟩ := implStep (ds[i]).f0 (ds[i]).f1 (ds[i]).f2 (ds[i]).f3
    generalize hk : (ds[i]).f0 = kind at *
    generalize ha : (ds[i]).f1 = at_ at *
    generalize hn : (ds[i]).f2 = n at *
    generalize hdt : (ds[i]).f3 = dt at *
    have up : Unit → wrap64 ((i : Int) + 1) = ((i + 1 : Nat) : Int) := fun _ => upN i (by omega)
    have hlen : (out ++ [kind % 256]).length = out.length + 1 := by simp
    have fin : ∀ b : Bool, b = true → Ev (fun k => impl_DeltaBytes.j1 k (out ++ [kind % 256]) ds (ds.length : Int) (i : Int) b kind at_ n dt) ([] : List Int) := by
      intro b hb
      refine Ev.step ?_
      simp only [impl_DeltaBytes.j1]
      exact Ev.pos hb Ev.pure
    by_cases g1 : kind = 1 ∧ 1 ≤ n ∧ n ≤ 268435455 ∧ 0 ≤ at_ ∧ at_ ≤ 268435455 ∧ dt.length = 0
    · obtain ⟨k1, n1, n2, a0, a1, d0⟩ := g1
      have et : ts = true := is.2 (Or.inl ⟨k1, n1, n2, a0, a1, d0⟩)
      have ez : ti = true := ii.2 (Or.inl ⟨k1, n1, d0⟩)
      subst et
      subst ez
      clear is ii
      obtain ⟨r1, s1, i1, l1⟩ := num_ev (out ++ [kind % 256]) at_ a0 (by omega) (by rw [hlen]; omega)
      obtain ⟨r2, s2, i2, l2⟩ := num_ev r1 n (by omega) (by omega) (by omega)
      obtain ⟨r, h1, h2, h3⟩ := ih r2 (by omega)
      refine ⟨r, Ev.step ?_, Ev.step ?_, h3⟩
      · simp only [spec_DeltaBytes.l0, rd62 ds i hi, hk, ha, hn, hdt, up ()]
        exact Ev.pos (by omega) (Ev.pos (by omega) (Ev.cons es (Ev.pos rfl (Ev.pos (by omega) (Ev.cons rfl (Ev.pos k1 (Ev.bind s1 (Ev.bind s2 h1))))))))
      · have f2 : decide (n > 268435455) = false := decide_eq_false (by omega)
        simp only [impl_DeltaBytes.l0, rd62 ds i hi, hk, ha, hn, hdt, f2]
        refine Ev.pos (by omega) (Ev.pos (by omega) (Ev.pos (by omega) (Ev.cons ei (Ev.pos rfl (Ev.pos (by omega) (Ev.cons rfl (Ev.pos k1 (Ev.neg (by omega) (Ev.neg (by omega) (Ev.step ?_))))))))))
        simp only [impl_DeltaBytes.j1, up ()]
        exact Ev.neg (by simp) (Ev.bind i1 (Ev.bind i2 h2))
    by_cases g2 : kind = 2 ∧ at_ = 0 ∧ n = 0 ∧ 1 ≤ dt.length
    · obtain ⟨k1, a0, n0, d0⟩ := g2
      have et : ts = true := is.2 (Or.inr ⟨k1, a0, n0, by omega⟩)
      have ez : ti = true := ii.2 (Or.inr ⟨k1, a0, n0, d0⟩)
      subst et
      subst ez
      clear is ii
      obtain ⟨r1, s1, i1, l1⟩ := num_ev (out ++ [kind % 256]) (dt.length : Int) (by omega) (by omega) (by rw [hlen]; omega)
      obtain ⟨r, h1, h2, h3⟩ := ih (r1 ++ dt) (by rw [List.length_append]; omega)
      refine ⟨r, Ev.step ?_, Ev.step ?_, h3⟩
      · simp only [spec_DeltaBytes.l0, rd62 ds i hi, hk, ha, hn, hdt, up ()]
        exact Ev.pos (by omega) (Ev.pos (by omega) (Ev.cons es (Ev.pos rfl (Ev.pos (by omega) (Ev.cons rfl (Ev.neg (by omega) (Ev.bind s1 (Ev.pos (by omega) h1))))))))
      · simp only [impl_DeltaBytes.l0, rd62 ds i hi, hk, ha, hn, hdt, up ()]
        exact Ev.pos (by omega) (Ev.pos (by omega) (Ev.pos (by omega) (Ev.cons ei (Ev.pos rfl (Ev.pos (by omega) (Ev.cons rfl (Ev.neg (by omega) (Ev.bind i1 (Ev.pos (by omega) h2)))))))))
    · have et : ts = false := by
        cases ts
        · rfl
        · have := is.1 rfl
          omega
      subst et
      refine ⟨[], Ev.step ?_, Ev.step ?_, by simp⟩
      · simp only [spec_DeltaBytes.l0, rd62 ds i hi, hk, ha, hn, hdt]
        exact Ev.pos (by omega) (Ev.pos (by omega) (Ev.cons es (Ev.neg (by simp) Ev.pure)))
      · simp only [impl_DeltaBytes.l0, rd62 ds i hi, hk, ha, hn, hdt]
        refine Ev.pos (by omega) (Ev.pos (by omega) (Ev.pos (by omega) (Ev.cons ei ?_)))
        cases ti
        · exact Ev.neg (by simp) Ev.pure
        · have h := ii.1 rfl
          refine Ev.pos rfl (Ev.pos (by omega) (Ev.cons rfl (Ev.pos (by omega) ?_)))
          by_cases a0 : at_ < 0
          · exact Ev.pos a0 (fin true rfl)
          by_cases a1 : at_ > 268435455
          · exact Ev.neg a0 (Ev.pos a1 (fin true rfl))
          · exact Ev.neg a0 (Ev.neg a1 (fin _ (decide_eq_true (by omega))))

-- RoundT
def Byt (xs : List Int) : Prop := ∀ c ∈ xs, 0 ≤ c ∧ c < 256
def dsum : List S62 → Nat
  | [] => 0
  | s :: t => s.f3.length + dsum t
theorem dsum_mem : ∀ (ds : List S62) (s : S62), s ∈ ds → s.f3.length ≤ dsum ds
  | [], _, h => by cases h
  | a :: t, s, h => by
    rcases List.mem_cons.1 h with rfl | h
    · show s.f3.length ≤ s.f3.length + dsum t
      omega
    · have := dsum_mem t s h
      show s.f3.length ≤ a.f3.length + dsum t
      omega
/-- A step has bytes that are read as it. -/
theorem step_enc (s : S62) (h : okS s) (hb : s.f3.length ≤ 1048576) (hw : Byt s.f3) : ∃ cs, Good [s] cs ∧ Byt cs ∧ cs.length ≤ 9 + s.f3.length ∧
    ∀ (b : List Int) (_ : b.length ≤ 1048576) (_ : ∀ c ∈ b, 0 ≤ c ∧ c < 256) (o : List S62) (_ : o.length + 1 ≤ 10000) (p t : List Int) (_ : b = p ++ (cs ++ t)) (r : List S62 × Bool), IR b (o ++ [s]) ((p ++ cs).length : Int) r → IR b o (p.length : Int) r := by
  have hs := h
  obtain ⟨f0, f1, f2, f3⟩ := s
  rcases h with ⟨k, n1, n2, a0, a1, d0⟩ | ⟨k, a0, n0, d0⟩
  · obtain rfl : f0 = 1 := k
    obtain rfl : f3 = [] := List.length_eq_zero_iff.1 d0
    obtain ⟨ds1, g1, l1, v1, m1, w1⟩ := digs4 f1 a0 a1
    obtain ⟨ds2, g2, l2, v2, m2, w2⟩ := digs4 f2 (by have : 1 ≤ f2 := n1; omega) n2
    subst v1
    subst v2
    have hcl : (1 :: (ds1 ++ ds2)).length = 1 + ds1.length + ds2.length := by simp; omega
    refine ⟨1 :: (ds1 ++ ds2), fun out hout => ?_, fun c hc => ?_, by show _ ≤ 9 + 0; omega, fun b hbl hbw o ho p t he r hI => ?_⟩
    · have ho1 : (out ++ [(1 : Int)]).length = out.length + 1 := by simp
      obtain ⟨r1, e1, _, e2, _⟩ := enc_dig ds1 g1 l1 (out ++ [1]) (by omega)
      have e2 := e2 m1
      subst e2
      obtain ⟨r2, e3, _, e4, _⟩ := enc_dig ds2 g2 l2 (out ++ [1] ++ ds1) (by rw [List.length_append]; omega)
      have e4 := e4 m2
      subst e4
      exact ⟨_, ⟨hs, out ++ [1] ++ ds1, by simp, by simp, .inl ⟨rfl, e1, e3⟩⟩, by simp [Run]⟩
    · rcases List.mem_cons.1 hc with rfl | hc
      · omega
      · rcases List.mem_append.1 hc with hc | hc
        · exact w1 c hc
        · exact w2 c hc
    · exact IR_copy b hbl hbw o ho p t ds1 ds2 he g1 l1 m1 g2 l2 m2 (by have : 1 ≤ dval ds2 := n1; omega) r hI
  · obtain rfl : f0 = 2 := k
    obtain rfl : f1 = 0 := a0
    obtain rfl : f2 = 0 := n0
    have d0 : 0 < f3.length := d0
    have hb : f3.length ≤ 1048576 := hb
    obtain ⟨ds, g1, l1, v1, m1, w1⟩ := digs4 (f3.length : Int) (by omega) (by omega)
    have hcl : (2 :: (ds ++ f3)).length = 1 + ds.length + f3.length := by simp; omega
    refine ⟨2 :: (ds ++ f3), fun out hout => ?_, fun c hc => ?_, by show _ ≤ 9 + f3.length; omega, fun b hbl hbw o ho p t he r hI => ?_⟩
    · have ho1 : (out ++ [(2 : Int)]).length = out.length + 1 := by simp
      obtain ⟨r1, e1, _, e2, _⟩ := enc_dig ds g1 l1 (out ++ [2]) (by omega)
      have e2 := e2 m1
      subst e2
      rw [v1] at e1
      refine ⟨out ++ [2] ++ ds ++ f3, ⟨hs, out ++ [2] ++ ds, by simp, ?_, .inr ⟨rfl, e1, rfl⟩⟩, ?_⟩
      · rw [@List.length_append _ (out ++ [2] ++ ds)]; omega
      · show out ++ 2 :: (ds ++ f3) = out ++ [2] ++ ds ++ f3
        simp
    · rcases List.mem_cons.1 hc with rfl | hc
      · omega
      · rcases List.mem_append.1 hc with hc | hc
        · exact w1 c hc
        · exact hw c hc
    · exact IR_text b hbl hbw o ho p t ds f3 he g1 l1 m1 v1.symm d0 r hI
theorem steps_enc : ∀ ds : List S62, (∀ s ∈ ds, okS s) → (∀ s ∈ ds, s.f3.length ≤ 1048576) → (∀ s ∈ ds, Byt s.f3) → ∃ cs, Good ds cs ∧ Byt cs ∧ cs.length ≤ 9 * ds.length + dsum ds ∧
    ∀ (b : List Int) (_ : b.length ≤ 1048576) (_ : ∀ c ∈ b, 0 ≤ c ∧ c < 256) (o : List S62) (_ : o.length + ds.length ≤ 10000) (p t : List Int) (_ : b = p ++ (cs ++ t)) (r : List S62 × Bool), IR b (o ++ ds) ((p ++ cs).length : Int) r → IR b o (p.length : Int) r
  | [], _, _, _ => ⟨[], Good.nil, (fun c hc => by cases hc), by simp, fun b _ _ o _ p t _ r h => by simpa using h⟩
  | s :: ds, h1, h2, h3 => by
    obtain ⟨c1, a1, a2, a3, a4⟩ := step_enc s (h1 s (by simp)) (h2 s (by simp)) (h3 s (by simp))
    obtain ⟨c2, b1, b2, b3, b4⟩ := steps_enc ds (fun x hx => h1 x (by simp [hx])) (fun x hx => h2 x (by simp [hx])) (fun x hx => h3 x (by simp [hx]))
    refine ⟨c1 ++ c2, a1.app b1, fun c hc => ?_, ?_, fun b hb hw o ho p t he r hI => ?_⟩
    · rcases List.mem_append.1 hc with hc | hc
      · exact a2 c hc
      · exact b2 c hc
    · rw [List.length_append, List.length_cons]
      show _ ≤ _ + (s.f3.length + dsum ds)
      omega
    · rw [List.length_cons] at ho
      refine a4 b hb hw o (by omega) p (c2 ++ t) (by rw [he]; simp) r ?_
      refine b4 b hb hw (o ++ [s]) (by rw [List.length_append, List.length_singleton]; omega) (p ++ c1) t (by rw [he]; simp) r ?_
      rw [List.append_assoc, List.singleton_append, List.append_assoc]
      exact hI
theorem prefix_there (b t : List Int) (he : b = [76, 68, 84, 49] ++ t) : strings_HasPrefix.f (strOfNums b) (⟨#[76, 68, 84, 49]⟩ : ByteArray) = some true := by
  have hs : (strOfNums b).size = b.length := strOfNums_size b
  have h4 : (⟨#[76, 68, 84, 49]⟩ : ByteArray).size = 4 := rfl
  have ht : (⟨#[76, 68, 84, 49]⟩ : ByteArray).toList = ([76, 68, 84, 49] : List UInt8) := by rw [Lib.toList_data]
  have hl : 4 ≤ b.length := by rw [he]; simp
  have htk : b.take 4 = [76, 68, 84, 49] := by rw [he]; rfl
  have hz : (strOfNums (b.take 4)).toList = ([76, 68, 84, 49] : List UInt8) := by
    rw [htk, Lib.toList_data, strOfNums_data]; rfl
  unfold strings_HasPrefix.f stringslite_HasPrefix.f
  rw [if_pos (by rw [hs, h4]; omega), if_pos (by rw [h4]; omega), if_pos (by rw [hs, h4]; omega), h4]
  show (some (((strOfNums b).extract 0 4).toList == (⟨#[76, 68, 84, 49]⟩ : ByteArray).toList)).bind _ = _
  rw [take_str b, ht, hz]; rfl
/-- What steps are written as is read as they are. -/
theorem round_trip (ds : List S62) (hd : ds.length ≤ 3000) (h1 : ∀ s ∈ ds, okS s) (h3 : ∀ s ∈ ds, Byt s.f3) (hs : dsum ds ≤ 4000) : ∃ b, Ev (fun k => impl_DeltaBytes.f k ds) b ∧ b.length ≤ 40000 ∧ Ev (fun k => impl_ReadDelta.f k b) (ds, true) := by
  have h2 : ∀ s ∈ ds, s.f3.length ≤ 1048576 := fun s hm => by have := dsum_mem ds s hm; omega
  obtain ⟨cs, g1, g2, g3, g4⟩ := steps_enc ds h1 h2 h3
  obtain ⟨b, hb⟩ : ∃ b, b = [76, 68, 84, 49] ++ cs := ⟨_, rfl⟩
  have hl : b.length = 4 + cs.length := by rw [hb]; simp; omega
  have hbw : ∀ c ∈ b, 0 ≤ c ∧ c < 256 := fun c hc => by
    rw [hb] at hc
    rcases List.mem_append.1 hc with hc | hc
    · simp at hc
      omega
    · exact g2 c hc
  have hr := run_db ds (by omega) ds [] [76, 68, 84, 49] ([76, 68, 84, 49] ++ cs) rfl (g1 _ (by simp; omega)) (by simp; omega) h2
  rw [← hb] at hr
  obtain ⟨q, q1, q2, _⟩ := DeltaBytes_ev ds (by omega) h2
  have hq := Ev.uniq (db_of ds (by omega) b hr) q1
  subst hq
  refine ⟨b, q2, by omega, ?_⟩
  unfold impl_ReadDelta.f
  refine Ev.cons (prefix_there b cs hb) (Ev.pos rfl ?_)
  have := g4 b (by omega) hbw [] (by simp; omega) [76, 68, 84, 49] [] (by rw [hb]; simp) (ds, true) ?_
  · exact this
  · rw [← hb, List.nil_append]
    refine Ev.step ?_
    simp only [impl_ReadDelta.l0]
    exact Ev.neg (by omega) Ev.pure

-- Draw1
theorem and255 (x : Int) : 0 ≤ Go.bits .and .i64 x 255 ∧ Go.bits .and .i64 x 255 ≤ 255 := by
  unfold Go.bits
  have h : ((BitVec.ofInt IntKind.i64.bits x) &&& (BitVec.ofInt IntKind.i64.bits 255)).toNat ≤ 255 := by
    rw [BitVec.toNat_and]
    exact Nat.le_trans Nat.and_le_right (by decide)
  simp only []
  rw [i64w _ (by omega) (by omega)]
  omega
theorem l1New_f (l : List Int) (hl : l.length ≤ 1048576) : ∃ h, ∀ k, l.length < k → spec_l1New.f k l = some (l, 0, h) := by
  have key : ∀ (d : Nat) (h i : Int), 0 ≤ i → i ≤ l.length → (l.length : Int) - i = d → ∃ h', ∀ k, d < k → spec_l1New.l0 k l h i = some (l, 0, h') := by
    intro d
    induction d with
    | zero =>
      intro h i h0 h1 hd
      refine ⟨h, fun k hk => ?_⟩
      obtain ⟨k, rfl⟩ : ∃ m, k = m + 1 := ⟨k - 1, by omega⟩
      simp only [spec_l1New.l0]; rw [if_neg (by omega)]
    | succ d ih =>
      intro h i h0 h1 hd
      obtain ⟨h', hh⟩ := ih (Go.bits .and .i64 (wrap64 ((wrap64 ((wrap64 (h * 139)) + (wrap64 (rd l i)))) + 13)) 1073741823) (i + 1) (by omega) (by omega) (by omega)
      refine ⟨h', fun k hk => ?_⟩
      obtain ⟨k, rfl⟩ : ∃ m, k = m + 1 := ⟨k - 1, by omega⟩
      simp only [spec_l1New.l0]; rw [if_pos (by omega), if_pos h0, up1 i h0 (by omega)]
      exact hh k (by omega)
  exact key l.length (wrap64 (57731 + (l.length : Int))) 0 (by omega) (by omega) (by omega)
theorem l1Byte_f (l : List Int) (hl : l.length ≤ 1048576) (i h : Int) (h0 : 0 ≤ i) (h1 : i ≤ l.length) : ∃ b i' h' : Int, 0 ≤ b ∧ b ≤ 255 ∧ 0 ≤ i' ∧ i' ≤ l.length ∧ spec_l1Byte.f l i h = some (b, i', h') := by
  unfold spec_l1Byte.f
  by_cases hc : i < (l.length : Int)
  · rw [if_pos hc, if_pos h0, up1 i h0 (by omega)]
    exact ⟨_, _, _, (and255 _).1, (and255 _).2, by omega, by omega, rfl⟩
  · rw [if_neg hc]
    exact ⟨_, _, _, (and255 _).1, (and255 _).2, h0, h1, rfl⟩
theorem l1Below_f (l : List Int) (hl : l.length ≤ 1048576) (i h n : Int) (h0 : 0 ≤ i) (h1 : i ≤ l.length) : ∃ b i' h' : Int, 0 ≤ b ∧ (0 < n → b < n) ∧ (n ≤ 0 → b = 0) ∧ 0 ≤ i' ∧ i' ≤ l.length ∧ spec_l1Below.f l i h n = some (b, i', h') := by
  unfold spec_l1Below.f
  by_cases hn : n ≤ 0
  · rw [if_pos hn]; exact ⟨0, i, h, by omega, by omega, fun _ => rfl, h0, h1, rfl⟩
  · rw [if_neg hn]
    obtain ⟨b1, i1, g1, a0, a1, c0, c1, e1⟩ := l1Byte_f l hl i h h0 h1
    rw [e1]
    simp only [Option.bind_some]
    by_cases h256 : n ≤ 256
    · rw [if_pos h256, if_neg (by omega), Int.tmod_eq_emod_of_nonneg a0]
      exact ⟨_, _, _, Int.emod_nonneg _ (by omega), fun hp => Int.emod_lt_of_pos _ hp, by omega, c0, c1, rfl⟩
    · rw [if_neg h256]
      obtain ⟨b2, i2, g2, a2, a3, c2, c3, e2⟩ := l1Byte_f l hl i1 g1 c0 c1
      rw [e2]
      simp only [Option.bind_some]
      obtain ⟨b3, i3, g3, a4, a5, c4, c5, e3⟩ := l1Byte_f l hl i2 g2 c2 c3
      rw [e3]
      simp only [Option.bind_some]
      obtain ⟨b4, i4, g4, a6, a7, c6, c7, e4⟩ := l1Byte_f l hl i3 g3 c4 c5
      rw [e4]
      simp only [Option.bind_some]
      rw [if_neg (by omega), w64 (b1 * 16777216) (by omega) (by omega), w64 (b2 * 65536) (by omega) (by omega), w64 (b3 * 256) (by omega) (by omega), w64 (b1 * 16777216 + b2 * 65536) (by omega) (by omega),
        w64 (b1 * 16777216 + b2 * 65536 + b3 * 256) (by omega) (by omega), w64 (b1 * 16777216 + b2 * 65536 + b3 * 256 + b4) (by omega) (by omega), Int.tmod_eq_emod_of_nonneg (by omega)]
      exact ⟨_, _, _, Int.emod_nonneg _ (by omega), fun hp => Int.emod_lt_of_pos _ hp, by omega, c6, c7, rfl⟩
theorem l1Once_f (l : List Int) (hl : l.length ≤ 1048576) (i h n : Int) (h0 : 0 ≤ i) (h1 : i ≤ l.length) : ∃ (b : Bool) (i' h' : Int), 0 ≤ i' ∧ i' ≤ l.length ∧ spec_l1Once.f l i h n = some (b, i', h') := by
  unfold spec_l1Once.f
  obtain ⟨b1, i1, g1, _, _, _, c0, c1, e1⟩ := l1Below_f l hl i h n h0 h1
  rw [e1]
  exact ⟨_, _, _, c0, c1, rfl⟩

-- DrawD
theorem Byt.app {a b : List Int} (h : Byt a) (h2 : Byt b) : Byt (a ++ b) := fun c hc => by
  rcases List.mem_append.1 hc with hc | hc
  · exact h c hc
  · exact h2 c hc
/-- What a draw of bytes leaves. -/
def SQ (l : List Int) (r : List Int × Int × Int) : Prop := r.1.length ≤ 100 ∧ Byt r.1 ∧ 0 ≤ r.2.1 ∧ r.2.1 ≤ l.length
theorem l1Some_ev (l : List Int) (hl : l.length ≤ 1048576) (n : Int) (h1 : n ≤ 100) (d : Nat) : ∀ (j : Int) (out : List Int) (i h : Int), n - j = d → 0 ≤ j → (out.length : Int) = j → Byt out → 0 ≤ i → i ≤ l.length → EvP (SQ l) (fun k => spec_l1Some.l0 k n out j l i h) := by
  induction d with
  | zero =>
    intro j out i h hd hj ho hb i0 i1
    refine EvP.step ?_
    simp only [spec_l1Some.l0]
    exact EvP.neg (by omega) (EvP.pure ⟨by show out.length ≤ 100; omega, hb, i0, i1⟩)
  | succ d ih =>
    intro j out i h hd hj ho hb i0 i1
    obtain ⟨b, i', h', b0, b1, _, c0, c1, e⟩ := l1Below_f l hl i h 256 i0 i1
    have hw : wrap64 (j + 1) = j + 1 := w64 _ (by omega) (by omega)
    refine EvP.step ?_
    simp only [spec_l1Some.l0, hw]
    refine EvP.pos (by omega) (EvP.cons e (EvP.pos (by omega) (ih (j + 1) (out ++ [b % 256]) i' h' (by omega) (by omega) (by rw [List.length_append, List.length_singleton]; omega) (hb.app fun c hc => ?_) c0 c1)))
    rw [List.mem_singleton.1 hc]
    omega
theorem l1Some_f (l : List Int) (hl : l.length ≤ 1048576) (n i h : Int) (h0 : 0 ≤ n) (h1 : n ≤ 100) (i0 : 0 ≤ i) (i1 : i ≤ l.length) : EvP (SQ l) (fun k => spec_l1Some.f k l i h n) := by
  unfold spec_l1Some.f
  exact l1Some_ev l hl n h1 n.toNat 0 [] i h (by omega) (by omega) rfl (fun c hc => by cases hc) i0 i1
def BQ (l : List Int) (r : List Int × List Int × Int × Int) : Prop := r.1.length ≤ 250 ∧ Byt r.1 ∧ r.2.1.length ≤ 3001 ∧ Byt r.2.1 ∧ 0 ≤ r.2.2.1 ∧ r.2.2.1 ≤ l.length
theorem drawB_loop (l : List Int) (hl : l.length ≤ 1048576) (old : List Int) (ho : old.length ≤ 250) (hb : Byt old) (d : Nat) (hd : d ≤ 6) : ∀ (fresh : List Int) (i h : Int), fresh.length ≤ (6 - d) * 250 → Byt fresh → 0 ≤ i → i ≤ l.length → EvP (BQ l) (fun k => spec_l14DrawBytes.l0 k old fresh (d : Int) l i h) := by
  induction d with
  | zero =>
    intro fresh i h hf hfb i0 i1
    obtain ⟨b, i2, g2, c0, c1, e⟩ := l1Once_f l hl i h 100 i0 i1
    refine EvP.step ?_
    simp only [spec_l14DrawBytes.l0]
    refine EvP.neg (by omega) (EvP.cons e ?_)
    cases b
    · exact EvP.neg (by simp) (EvP.pure ⟨ho, hb, by show fresh.length ≤ 3001; omega, hfb, c0, c1⟩)
    · obtain ⟨m, i3, g3, m0, m1, _, c2, c3, e3⟩ := l1Below_f l hl i2 g2 2 c0 c1
      have m1 := m1 (by omega)
      have hw : wrap64 (3000 + m) = 3000 + m := w64 _ (by omega) (by omega)
      refine EvP.pos rfl (EvP.cons e3 ?_)
      simp only [hw]
      refine EvP.pos (by omega) (EvP.pos (by omega) (EvP.pure ⟨ho, hb, ?_, fun c hc => ?_, c2, c3⟩))
      · show (List.replicate (3000 + m).toNat (0 : Int)).length ≤ 3001
        rw [List.length_replicate]
        omega
      · have := (List.mem_replicate.1 hc).2
        omega
  | succ d ih =>
    intro fresh i h hf hfb i0 i1
    have hdn : wrap64 (((d + 1 : Nat) : Int) - 1) = (d : Int) := by rw [dnN (d + 1) (by omega) (by omega)]; rfl
    have more : ∀ (s : List Int) (i h : Int), s.length ≤ 250 → Byt s → 0 ≤ i → i ≤ l.length → EvP (BQ l) (fun k => spec_l14DrawBytes.l0 k old (fresh ++ s) (d : Int) l i h) := fun s i h hs hsb i0 i1 =>
      ih (by omega) (fresh ++ s) i h (by rw [List.length_append, show 6 - d = 6 - (d + 1) + 1 by omega, Nat.add_mul]; omega) (hfb.app hsb) i0 i1
    have j2 : ∀ (z : Bool) (i h : Int), (z = false → 0 < old.length) → 0 ≤ i → i ≤ l.length → EvP (BQ l) (fun k => spec_l14DrawBytes.j2 k old fresh ((d + 1 : Nat) : Int) z l i h) := by
      intro z i h hz i0 i1
      refine EvP.step ?_
      simp only [spec_l14DrawBytes.j2, hdn]
      have hfl : fresh.length ≤ 1500 := by
        have : (6 - (d + 1)) * 250 ≤ 6 * 250 := Nat.mul_le_mul_right _ (by omega)
        omega
      cases z
      · have hpos := hz rfl
        obtain ⟨a, i2, g2, a0, a1, _, c0, c1, e⟩ := l1Below_f l hl i h (old.length : Int) i0 i1
        have a1 := a1 (by omega)
        have w1 : wrap64 (wrap64 ((old.length : Int) - a) + 1) = old.length - a + 1 := by rw [w64 ((old.length : Int) - a) (by omega) (by omega), w64 _ (by omega) (by omega)]
        obtain ⟨n, i3, g3, n0, n1, _, c2, c3, e3⟩ := l1Below_f l hl i2 g2 (old.length - a + 1) c0 c1
        have n1 := n1 (by omega)
        have w2 : wrap64 (a + n) = a + n := w64 _ (by omega) (by omega)
        refine EvP.neg (by simp) (EvP.cons e ?_)
        simp only [w1]
        refine EvP.cons e3 ?_
        simp only [w2]
        have hy : ((old.take (a + n).toNat).drop a.toNat).length ≤ 250 := by rw [List.length_drop, List.length_take]; omega
        refine EvP.pos a0 (EvP.pos (by omega) (EvP.pos (by omega) (EvP.cons rfl (EvP.pos (by omega) (more _ i3 g3 hy (fun c hc => hb c (List.mem_of_mem_take (List.mem_of_mem_drop hc))) c2 c3)))))
      · obtain ⟨m, i2, g2, m0, m1, _, c0, c1, e⟩ := l1Below_f l hl i h 10 i0 i1
        have m1 := m1 (by omega)
        obtain ⟨⟨s, i3, g3⟩, ⟨s1, s2, s3, s4⟩, es⟩ := l1Some_f l hl m i2 g2 m0 (by omega) c0 c1
        have s1 : s.length ≤ 100 := s1
        exact EvP.pos rfl (EvP.cons e (EvP.bind es (EvP.pos (by show fresh.length + s.length < 140737488355328; omega) (more s i3 g3 (by omega) s2 s3 s4))))
    obtain ⟨b, i2, g2, c0, c1, e⟩ := l1Once_f l hl i h 3 i0 i1
    refine EvP.step ?_
    simp only [spec_l14DrawBytes.l0]
    refine EvP.pos (by omega) (EvP.cons e ?_)
    cases b
    · exact EvP.neg (by simp) (j2 _ i2 g2 (fun hz => by simp at hz; exact List.length_pos_iff.2 hz) c0 c1)
    · exact EvP.pos rfl (j2 true i2 g2 (fun hz => by cases hz) c0 c1)
theorem drawB_f (l : List Int) (hl : l.length ≤ 1048576) (i h : Int) (i0 : 0 ≤ i) (i1 : i ≤ l.length) : EvP (BQ l) (fun k => spec_l14DrawBytes.f k l i h) := by
  unfold spec_l14DrawBytes.f
  have j0 : ∀ (old : List Int) (i h : Int), old.length ≤ 250 → Byt old → 0 ≤ i → i ≤ l.length → EvP (BQ l) (fun k => spec_l14DrawBytes.j0 k old l i h) := by
    intro old i h ho hb i0 i1
    obtain ⟨m, i2, g2, m0, m1, _, c0, c1, e⟩ := l1Below_f l hl i h 6 i0 i1
    have m1 := m1 (by omega)
    obtain ⟨n, rfl⟩ : ∃ n : Nat, m = (n : Int) := ⟨m.toNat, by omega⟩
    refine EvP.step ?_
    simp only [spec_l14DrawBytes.j0]
    exact EvP.cons e (drawB_loop l hl old ho hb n (by omega) [] i2 g2 (by simp) (fun c hc => by cases hc) c0 c1)
  obtain ⟨m, i2, g2, m0, m1, _, c0, c1, e⟩ := l1Below_f l hl i h 60 i0 i1
  have m1 := m1 (by omega)
  obtain ⟨⟨s, i3, g3⟩, ⟨s1, s2, s3, s4⟩, es⟩ := l1Some_f l hl m i2 g2 m0 (by omega) c0 c1
  have s1 : s.length ≤ 100 := s1
  obtain ⟨b, i4, g4, c4, c5, e4⟩ := l1Once_f l hl i3 g3 3 s3 s4
  refine EvP.cons e (EvP.bind es (EvP.cons e4 ?_))
  cases b
  · exact EvP.neg (by simp) (j0 s i4 g4 (by omega) s2 c4 c5)
  · obtain ⟨y, hy⟩ : ∃ y : List Int, y = [97, 98, 99, 100, 101, 102, 97, 98, 99, 100, 101, 102, 103, 97, 98, 99, 100, 101, 102, 103, 104] := ⟨_, rfl⟩
    have hyl : y.length = 21 := by rw [hy]; rfl
    have hyb : Byt y := fun c hc => by
      rw [hy] at hc
      simp only [List.mem_cons, List.not_mem_nil, or_false] at hc
      omega
    have hss : (s ++ s).length = s.length + s.length := List.length_append
    refine EvP.pos rfl (EvP.pos (by show s.length + s.length < 140737488355328; omega) (EvP.cons rfl (EvP.cons rfl (EvP.pos ?_ ?_))))
    · rw [← hy]
      show (s ++ s).length + y.length < 140737488355328
      omega
    · rw [← hy]
      exact j0 (s ++ s ++ y) i4 g4 (by rw [@List.length_append _ (s ++ s)]; omega) ((s2.app s2).app hyb) c4 c5
theorem MakeDelta_big (x y : List Int) (hx : x.length ≤ 3000) (hy : 3000 < y.length) : Ev (fun k => spec_MakeDelta.f k x y) [] ∧ Ev (fun k => impl_MakeDelta.f k x y) [] := by
  unfold spec_MakeDelta.f impl_MakeDelta.f
  have hd : (y.length : Int) > 3000 := by omega
  refine ⟨Ev.cons rfl (Ev.neg (by omega) (Ev.step ?_)), Ev.neg (by omega) (Ev.step ?_)⟩
  · simp only [spec_MakeDelta.j0]
    exact Ev.pos (decide_eq_true hd) Ev.pure
  · simp only [impl_MakeDelta.j0]
    exact Ev.pos (decide_eq_true hd) Ev.pure
theorem dsum_play (x : List Int) : ∀ ds : List S62, (∀ s ∈ ds, StepG x s) → dsum ds ≤ (play x ds).length
  | [], _ => Nat.zero_le _
  | s :: t, h => by
    have ih := dsum_play x t (fun y hy => h y (List.mem_cons_of_mem _ hy))
    have e : play x (s :: t) = stepB x s ++ play x t := by simp only [play, List.flatMap_cons]
    rw [e, List.length_append]
    show s.f3.length + dsum t ≤ _
    have : s.f3.length ≤ (stepB x s).length := by
      rcases h s List.mem_cons_self with ⟨k, _, _, _, d⟩ | ⟨k, _⟩
      · rw [d]; exact Nat.zero_le _
      · unfold stepB
        rw [if_neg (by omega)]
        exact Nat.le_refl _
    omega
theorem byt_play (x : List Int) (ds : List S62) (h : ∀ s ∈ ds, StepG x s) (hb : Byt (play x ds)) : ∀ s ∈ ds, Byt s.f3 := fun s hs c hc => by
  rcases h s hs with ⟨_, _, _, _, d⟩ | ⟨k, _⟩
  · rw [d] at hc
    cases hc
  · refine hb c (List.mem_flatMap.2 ⟨s, hs, ?_⟩)
    unfold stepB
    rw [if_neg (by omega)]
    exact hc
/-- What the draws make of steps. -/
def DsQ (ds : List S62) : Prop := ds.length ≤ 3000 ∧ dsum ds ≤ 7000 ∧ ∀ s ∈ ds, Byt s.f3
theorem dsum_set : ∀ (ds : List S62) (n : Nat) (v : S62), dsum (ds.set n v) ≤ dsum ds + v.f3.length
  | [], _, _ => by simp [dsum]
  | s :: t, 0, v => by
    show v.f3.length + dsum t ≤ s.f3.length + dsum t + v.f3.length
    omega
  | s :: t, n + 1, v => by
    have := dsum_set t n v
    show s.f3.length + dsum (t.set n v) ≤ s.f3.length + dsum t + v.f3.length
    omega
theorem made_ds (x y : List Int) (hx : x.length ≤ 3000) (hy : Byt y) : ∃ r, Ev (fun k => spec_MakeDelta.f k x y) r ∧ Ev (fun k => impl_MakeDelta.f k x y) r ∧ r.length ≤ 3000 ∧ dsum r ≤ 3000 ∧ (∀ s ∈ r, Byt s.f3) ∧ (y.length ≤ 3000 → (∀ s ∈ r, StepG x s) ∧ play x r = y) ∧ (3000 < y.length → r = []) := by
  by_cases c : y.length ≤ 3000
  · obtain ⟨r, r1, r2, ⟨h1, _⟩, h2, h3⟩ := MakeDelta_back x y hx c
    rw [List.take_length] at h3
    have := dsum_play x r h2
    rw [h3] at this
    exact ⟨r, r1, r2, by omega, by omega, byt_play x r h2 (by rw [h3]; exact hy), fun _ => ⟨h2, h3⟩, fun h => absurd h (by omega)⟩
  · obtain ⟨r1, r2⟩ := MakeDelta_big x y hx (by omega)
    exact ⟨[], r1, r2, by simp, by simp [dsum], by simp, fun h => absurd h c, fun _ => rfl⟩
def StQ (l : List Int) (r : List Int × List S62 × Int × Int) : Prop := DsQ r.2.1 ∧ 0 ≤ r.2.2.1 ∧ r.2.2.1 ≤ l.length
theorem drawS_f (l : List Int) (hl : l.length ≤ 1048576) (i h : Int) (i0 : 0 ≤ i) (i1 : i ≤ l.length) : EvP (StQ l) (fun k => spec_l14DrawSteps.f k l i h) := by
  unfold spec_l14DrawSteps.f
  obtain ⟨⟨old, fresh, i2, g2⟩, ⟨o1, _, _, f2, c0, c1⟩, e⟩ := drawB_f l hl i h i0 i1
  have o1 : old.length ≤ 250 := o1
  obtain ⟨ds, d1, _, dl, dsm, db, _⟩ := made_ds old fresh (by omega) f2
  obtain ⟨b, i3, g3, c2, c3, e3⟩ := l1Once_f l hl i2 g2 3 c0 c1
  have j0 : ∀ (z : Bool) (i h : Int), (z = true → 0 < ds.length) → 0 ≤ i → i ≤ l.length → EvP (StQ l) (fun k => spec_l14DrawSteps.j0 k old ds z l i h) := by
    intro z i h hz i0 i1
    refine EvP.step ?_
    simp only [spec_l14DrawSteps.j0]
    cases z
    · exact EvP.neg (by simp) (EvP.pure ⟨⟨dl, by show dsum ds ≤ 7000; omega, db⟩, i0, i1⟩)
    · have hpos := hz rfl
      obtain ⟨t, i2, g2, t0, t1, _, c0, c1, e⟩ := l1Below_f l hl i h (ds.length : Int) i0 i1
      have t1 := t1 (by omega)
      obtain ⟨n, rfl⟩ : ∃ n : Nat, t = (n : Int) := ⟨t.toNat, by omega⟩
      have hn : n < ds.length := by omega
      obtain ⟨m, i3, g3, m0, m1, _, c2, c3, e3⟩ := l1Below_f l hl i2 g2 4 c0 c1
      have hr := rd62 ds n hn
      have hml := dsum_mem ds _ (List.getElem_mem hn)
      have hmb := db _ (List.getElem_mem hn)
      have put : ∀ (v : S62) (i h : Int), v.f3.length ≤ 3001 → Byt v.f3 → 0 ≤ i → i ≤ l.length → StQ l (old, ds.set n v, i, h) := fun v i h hv hvb i0 i1 => by
        have := dsum_set ds n v
        refine ⟨⟨by show (ds.set n v).length ≤ 3000; rw [List.length_set]; exact dl, by show dsum (ds.set n v) ≤ 7000; omega, fun s hs => ?_⟩, i0, i1⟩
        rcases List.mem_or_eq_of_mem_set hs with hs | rfl
        · exact db s hs
        · exact hvb
      refine EvP.pos rfl (EvP.cons e (EvP.pos t0 (EvP.pos t1 (EvP.cons e3 ?_))))
      simp only [hr, Int.toNat_natCast]
      by_cases q0 : m = 0
      · obtain ⟨q, i4, g4, a0, a1, _, c4, c5, e4⟩ := l1Below_f l hl i3 g3 4 c2 c3
        have a1 := a1 (by omega)
        exact EvP.pos q0 (EvP.cons rfl (EvP.cons e4 (EvP.pos a0 (EvP.pos (by simpa using a1) (EvP.pure (put _ i4 g4 (by show (ds[n]).f3.length ≤ 3001; omega) hmb c4 c5))))))
      refine EvP.neg q0 ?_
      by_cases q1 : m = 1
      · obtain ⟨q, i4, g4, a0, a1, _, c4, c5, e4⟩ := l1Below_f l hl i3 g3 4 c2 c3
        have a1 := a1 (by omega)
        exact EvP.pos q1 (EvP.cons rfl (EvP.cons e4 (EvP.pos a0 (EvP.pos (by simpa using a1) (EvP.pure (put _ i4 g4 (by show (ds[n]).f3.length ≤ 3001; omega) hmb c4 c5))))))
      refine EvP.neg q1 ?_
      by_cases q2 : m = 2
      · obtain ⟨q, i4, g4, _, _, _, c4, c5, e4⟩ := l1Below_f l hl i3 g3 4 c2 c3
        exact EvP.pos q2 (EvP.cons e4 (EvP.pure (put _ i4 g4 (by show (ds[n]).f3.length ≤ 3001; omega) hmb c4 c5)))
      refine EvP.neg q2 ?_
      by_cases q3 : m = 3
      · refine EvP.pos q3 (EvP.pos (by omega) (EvP.pure (put _ i3 g3 (by show ((ds[n]).f3 ++ [1]).length ≤ 3001; rw [List.length_append, List.length_singleton]; omega) (hmb.app fun c hc => ?_) c2 c3)))
        rw [List.mem_singleton.1 hc]
        omega
      · exact EvP.neg q3 (EvP.pure ⟨⟨dl, by show dsum ds ≤ 7000; omega, db⟩, c2, c3⟩)
  refine EvP.bind e (EvP.bind d1 (EvP.cons e3 ?_))
  cases b
  · exact EvP.neg (by simp) (j0 false i3 g3 (fun hz => by cases hz) c2 c3)
  · exact EvP.pos rfl (j0 _ i3 g3 (fun hz => by have := of_decide_eq_true hz; omega) c2 c3)
theorem db_prop (ds : List S62) (h : DsQ ds) : EvP (fun b : List Int => b.length ≤ 40000 ∧ Byt b) (fun k => spec_DeltaBytes.f k ds) := by
  obtain ⟨h1, h2, h3⟩ := h
  have hm : ∀ s ∈ ds, s.f3.length ≤ 1048576 := fun s hs => by have := dsum_mem ds s hs; omega
  by_cases c : ∀ s ∈ ds, okS s
  · obtain ⟨cs, g1, g2, g3, _⟩ := steps_enc ds c hm h3
    have hr := run_db ds (by omega) ds [] [76, 68, 84, 49] ([76, 68, 84, 49] ++ cs) rfl (g1 _ (by simp; omega)) (by simp; omega) hm
    have hl : ([76, 68, 84, 49] ++ cs).length = 4 + cs.length := by simp; omega
    refine ⟨_, ⟨by omega, Byt.app (fun c hc => ?_) g2⟩, db_of ds (by omega) _ hr⟩
    simp at hc
    omega
  · have c : ∃ s ∈ ds, ¬ okS s := by
      apply Classical.byContradiction
      intro hn
      exact c fun s hs => Classical.byContradiction fun hk => hn ⟨s, hs, hk⟩
    have hr := bad_db ds (by omega) hm ds [] [76, 68, 84, 49] rfl c (by simp)
    exact ⟨[], ⟨by simp, fun c hc => by cases hc⟩, db_of ds (by omega) _ hr⟩
def ZQ (z : List Int) : Prop := z.length ≤ 1048576 ∧ Byt z
theorem drawR_f (l : List Int) (hl : l.length ≤ 1048576) : EvP ZQ (fun k => spec_DrawReadDelta.f k l) := by
  unfold spec_DrawReadDelta.f
  obtain ⟨g0, e0⟩ := l1New_f l hl
  obtain ⟨⟨old, ds, i2, g2⟩, ⟨dq, c0, c1⟩, e2⟩ := drawS_f l hl 0 g0 (by omega) (by omega)
  obtain ⟨b, ⟨b1, b2⟩, eb⟩ := db_prop ds dq
  refine EvP.bind (Ev.of (l.length + 1) (fun k hk => e0 k (by omega))) (EvP.bind e2 (EvP.bind eb ?_))
  by_cases c : (b.length : Int) = 0
  · exact EvP.pos c (EvP.pure ⟨by omega, b2⟩)
  obtain ⟨a, i3, g3, a0, a1, _, c2, c3, e3⟩ := l1Below_f l hl i2 g2 (b.length : Int) c0 c1
  have a1 := a1 (by omega)
  obtain ⟨m, i4, g4, _, _, _, c4, c5, e4⟩ := l1Below_f l hl i3 g3 6 c2 c3
  have j0 : ∀ z : Bool, EvP ZQ (fun k => spec_DrawReadDelta.j0 k b a m z l i4 g4) := by
    intro z
    refine EvP.step ?_
    simp only [spec_DrawReadDelta.j0]
    cases z
    · refine EvP.neg (by simp) ?_
      by_cases q2 : m = 2
      · exact EvP.pos q2 (EvP.pos a0 (EvP.pos (by omega) (EvP.pure ⟨by rw [List.length_take]; omega, fun c hc => b2 c (List.mem_of_mem_take hc)⟩)))
      refine EvP.neg q2 ?_
      by_cases q3 : m = 3
      · refine EvP.pos q3 (EvP.pos (by omega) (EvP.pure ⟨by rw [List.length_append, List.length_singleton]; omega, b2.app fun c hc => ?_⟩))
        rw [List.mem_singleton.1 hc]
        omega
      · exact EvP.neg q3 (EvP.pure ⟨by omega, b2⟩)
    · obtain ⟨x, i5, g5, _, _, _, _, _, e5⟩ := l1Below_f l hl i4 g4 256 c4 c5
      refine EvP.pos rfl (EvP.cons e5 (EvP.pos a0 (EvP.pos (by omega) (EvP.pure ⟨by rw [List.length_set]; omega, fun c hc => ?_⟩))))
      rcases List.mem_or_eq_of_mem_set hc with hc | rfl
      · exact b2 c hc
      · show 0 ≤ x % 256 ∧ x % 256 < 256
        omega
  refine EvP.neg c (EvP.cons e3 (EvP.cons e4 ?_))
  by_cases q0 : m = 0
  · exact EvP.pos q0 (j0 _)
  · exact EvP.neg q0 (j0 _)
theorem drawM_f (l : List Int) (hl : l.length ≤ 1048576) : ∃ old fresh, Ev (fun k => spec_DrawMakeDelta.f k l) (old, fresh) ∧ old.length ≤ 250 ∧ Byt fresh := by
  unfold spec_DrawMakeDelta.f
  obtain ⟨g0, e0⟩ := l1New_f l hl
  obtain ⟨⟨old, fresh, i2, g2⟩, ⟨o1, _, _, f2, _, _⟩, e⟩ := drawB_f l hl 0 g0 (by omega) (by omega)
  exact ⟨old, fresh, Ev.bind (Ev.of (l.length + 1) (fun k hk => e0 k (by omega))) (Ev.bind e Ev.pure), o1, f2⟩

theorem good_ok (x : List Int) (hx : x.length ≤ 3000) (s : S62) (h : StepG x s) : okS s := by
  rcases h with ⟨k, a, n, an, d⟩ | ⟨k, a, n, d⟩
  · exact .inl ⟨k, n, by omega, a, by omega, by rw [d]; rfl⟩
  · exact .inr ⟨k, a, n, d⟩
theorem FnDeltaBack : laws_FnDeltaBack.Pure := by
  intro l hm _ _
  refine Ev.at ?_
  unfold laws_FnDeltaBack.f laws_big.f
  by_cases cx : (l.length : Int) > 1048576
  · exact Ev.cons rfl (Ev.pos (decide_eq_true cx) Ev.pure)
  refine Ev.cons rfl (Ev.neg (by rw [decide_eq_false cx]; simp) ?_)
  have hl : l.length ≤ 1048576 := by omega
  obtain ⟨old, fresh, e1, o1, f1⟩ := drawM_f l hl
  obtain ⟨ds, d1, d2, dl, dsm, db, dg, dbig⟩ := made_ds old fresh (by omega) f1
  have none_ : Ev (fun k => impl_ApplyDelta.f k [] []) ([], true) := apply_play [] (by simp) [] (by simp) (fun s hs => by cases hs) (by simp [play])
  obtain ⟨z, ⟨z1, z2⟩, ez⟩ := drawR_f l hl
  obtain ⟨es, ok, s1, i1, sl, sd, sb⟩ := ReadDelta_ev2 z z1 z2
  have j2 : Ev (fun k => laws_FnDeltaBack.j2 k old fresh ds false) true := by
    refine Ev.step ?_
    simp only [laws_FnDeltaBack.j2]
    refine Ev.neg (by simp) ?_
    by_cases c0 : (ds.length : Int) = 0
    · refine Ev.pos c0 ?_
      by_cases cf : (fresh.length : Int) = 0
      · exact Ev.pos cf Ev.pure
      · refine Ev.neg cf (Ev.pos ?_ Ev.pure)
        apply Classical.byContradiction
        intro hn
        obtain ⟨_, hp⟩ := dg (by omega)
        obtain rfl : ds = [] := List.length_eq_zero_iff.1 (by omega)
        rw [← hp] at cf
        exact cf rfl
    · have hf : fresh.length ≤ 3000 := by
        apply Classical.byContradiction
        intro hn
        have := dbig (by omega)
        rw [this] at c0
        exact c0 rfl
      obtain ⟨hg, hp⟩ := dg hf
      have ha := apply_play old (by omega) ds (by omega) hg (by rw [hp]; omega)
      rw [hp] at ha
      obtain ⟨b, b1, b2, b3⟩ := round_trip ds dl (fun s hs => good_ok old (by omega) s (hg s hs)) db (by omega)
      have hsv : Ev (fun k => impl_Saved.f k old fresh) (wrap64 ((fresh.length : Int) - (b.length : Int))) := by
        unfold impl_Saved.f
        exact Ev.bind d2 (Ev.neg c0 (Ev.bind b1 Ev.pure))
      refine Ev.neg c0 (Ev.bind ha (Ev.bind b1 (Ev.bind b3 (Ev.pos rfl (Ev.pos rfl (Ev.pos rfl (Ev.pos rfl (Ev.bind hsv (Ev.pos rfl (Ev.bind ha (Ev.pos rfl ?_)))))))))))
      exact ⟨0, fun _ _ => by simp⟩
  have j1 : Ev (fun k => laws_FnDeltaBack.j1 k old fresh ds z es ok false) true := by
    refine Ev.step ?_
    simp only [laws_FnDeltaBack.j1]
    refine Ev.neg (by simp) ?_
    cases ok
    · exact Ev.neg (by simp) j2
    · obtain ⟨q, q1, q2, _⟩ := DeltaBytes_ev es (by omega) sd
      have hq := Ev.uniq (sb rfl) q1
      subst hq
      refine Ev.pos rfl (Ev.bind q2 ?_)
      simpa using j2
  have j0 : Ev (fun k => laws_FnDeltaBack.j0 k l old fresh ds false) true := by
    refine Ev.step ?_
    simp only [laws_FnDeltaBack.j0]
    refine Ev.neg (by simp) (Ev.bind ez (Ev.bind i1 (Ev.bind s1 (Ev.neg (by simp) (Ev.bind d1 ?_)))))
    simpa using j1
  exact Ev.bind e1 (Ev.bind d2 (Ev.bind none_ (Ev.pos rfl (by simpa using j0))))

end Go.Proofs.Ytkijlpiiiejjkaa.Pure
