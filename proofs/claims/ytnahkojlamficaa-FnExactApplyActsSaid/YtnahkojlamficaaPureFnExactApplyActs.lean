/- The pure statement of FnExactApplyActs: the map's keys are the spec's list in order. -/
import Derived.Test.YtnahkojlamficaaPFnExactApplyActsx0
import Derived.Test.YtnahkojlamficaaPFnExactApplyActsx1
import Derived.Test.YtnahkojlamficaaPFnExactApplyActsx2
import Derived.Test.YtnahkojlamficaaPFnExactApplyActsx3
import Derived.Test.YtnahkojlamficaaPFnExactApplyActsx4
import Derived.Test.YtnahkojlamficaaPFnExactApplyActsx5
import Derived.Laws.BitsLemmas
import Derived.Laws.Bits64b
import Derived.Lib.Bytealg
namespace Go.Proofs.Ytnahkojlamficaa.Pure
open Go.RowKit Go.Proofs.YtnahkojlamficaaW.PrintWords Go.Proofs.YtnahkojlamficaaW.PrintLast Go.Proofs.YtnahkojlamficaaW.PrintMore Go.Proofs.Ytnahkojlamficaa.PFnExactApplyActs

theorem u64w (n : Int) (h0 : 0 ≤ n) (h1 : n < 18446744073709551616) : IntKind.u64.wrap n = n := by
  simp [IntKind.wrap, IntKind.signed, IntKind.bits]; omega
theorem i64w (n : Int) (h0 : -9223372036854775808 ≤ n) (h1 : n < 9223372036854775808) : IntKind.i64.wrap n = n := by
  rw [IntKind.wrap_i64]; omega
theorem w64 (n : Int) (h0 : -9223372036854775808 ≤ n) (h1 : n < 9223372036854775808) : wrap64 n = n := by unfold wrap64; omega
theorem up1 (i : Int) (h0 : 0 ≤ i) (h : i < 9223372036854775807) : wrap64 (i + 1) = i + 1 := by unfold wrap64; omega
theorem u64_lo (n : Int) : 0 ≤ IntKind.u64.wrap n := by simp [IntKind.wrap, IntKind.signed, IntKind.bits]; omega
theorem u64_hi (n : Int) : IntKind.u64.wrap n < 18446744073709551616 := by simp [IntKind.wrap, IntKind.signed, IntKind.bits]; omega
theorem u64_wf (x : Int) (h : (Lit.int .u64 x).wf = true) : 0 ≤ x ∧ x < 18446744073709551616 := by
  simp [Lit.wf, IntKind.min, IntKind.max, IntKind.signed, IntKind.bits] at h; omega
theorem and31 (x : Int) (h0 : 0 ≤ x) (h1 : x < 18446744073709551616) : Go.bits .and .u64 x 31 = x % 32 := by
  have := bits_mask .u64 64 (by decide) (fun n a b => u64w n a (by simpa using b)) 5 (by decide) x h0 (by simpa using h1)
  simpa using this
theorem or5 (a c : Int) (h0 : 0 ≤ a) (h1 : a * 32 < 18446744073709551616) (hc0 : 0 ≤ c) (hc : c < 32) : Go.bits .or .u64 (a * 32) c = a * 32 + c := by
  have := bits_join .u64 64 (by decide) (fun n x y => u64w n x (by simpa using y)) 5 (a * 32) c (by omega) (by omega) (by simpa using h1) hc0 (by simpa using hc) (by simp; omega)
  exact this
theorem bt_list (l : List UInt8) (i : Int) : bt ⟨l.toArray⟩ i = ((l.getD i.toNat 0).toNat : Int) := by
  unfold bt
  split
  · rename_i h
    have h' : i.toNat < l.length := by simpa [ByteArray.size] using h
    rw [List.getD_eq_getElem?_getD, List.getElem?_eq_getElem h']
    rfl
  · rename_i h
    have h' : l.length ≤ i.toNat := by simpa [ByteArray.size] using h
    rw [List.getD_eq_getElem?_getD, List.getElem?_eq_none h']; rfl
/-- The alphabet of chapter 1. -/
def alpha : ByteArray := ⟨#[48, 49, 50, 51, 52, 53, 54, 55, 56, 57, 97, 98, 99, 100, 102, 103, 104, 105, 106, 107, 108, 109, 110, 112, 113, 114, 115, 118, 119, 120, 121, 122]⟩
/-- The n-th digit from the right, as its byte. -/
def dg (x : Int) (n : Nat) : Int := bt alpha (x / 2 ^ (5 * n) % 32)
/-- The last n digits. -/
def ds (x : Int) : Nat → List Int
  | 0 => []
  | n + 1 => dg x n :: ds x n
theorem ds_length (x : Int) : ∀ n, (ds x n).length = n
  | 0 => rfl
  | n + 1 => by simp [ds, ds_length x n]
/-- The thirteen bytes. -/
def word (x : Int) : ByteArray := strOfNums (ds x 13)
theorem div_lo (x : Int) (h0 : 0 ≤ x) (n : Nat) : 0 ≤ x / 2 ^ n := Int.ediv_nonneg h0 (by have := Nat.two_pow_pos n; exact_mod_cast Nat.zero_le _)
theorem div_hi (x : Int) (h0 : 0 ≤ x) (n : Nat) : x / 2 ^ n ≤ x := Int.ediv_le_self _ h0
theorem shr5 (x : Int) (n : Nat) (hn : n ≤ 12) : shr .u64 x (5 * n) = x / 2 ^ (5 * n) := by
  unfold shr
  have e : (5 * (n : Int)).toNat = 5 * n := by omega
  rw [e, Nat.min_eq_left (by simp [IntKind.bits]; omega)]
/-- What a byte is worth as a digit; -1: it is none. -/
def dv (c : Int) : Int := Lib.indexByte alpha.data.toList c.toNat.toUInt8
theorem dv_all : ∀ c : Fin 256, -1 ≤ dv (c.val : Int) ∧ dv (c.val : Int) < 32 := by decide +kernel
theorem dv_bounds (c : Int) (h0 : 0 ≤ c) (h1 : c ≤ 255) : -1 ≤ dv c ∧ dv c < 32 := by
  have := dv_all ⟨c.toNat, by omega⟩
  simpa [Int.toNat_of_nonneg h0] using this
/-- The number that thirteen digits tell, from the i-th on. -/
def rwGo (s : ByteArray) : Nat → Int → Nat → Int × Bool
  | 0, x, _ => (x, true)
  | d + 1, x, i => if dv (bt s i) < 0 then (0, false) else if i = 0 ∧ dv (bt s i) > 15 then (0, false) else rwGo s d (x * 32 + dv (bt s i)) (i + 1)
def rw32 (s : ByteArray) : Int × Bool := if s.size = 13 then rwGo s 13 0 0 else (0, false)
/-- The bound that the digits so far keep. -/
def lim (d : Nat) : Int := if d = 13 then 1 else 2 ^ (64 - 5 * d)
theorem lim_all : ∀ d : Fin 13, lim d.val ≤ 18446744073709551616 ∧ 0 < lim d.val ∧ (d.val < 12 → lim (d.val + 1) * 32 = lim d.val) ∧ (d.val = 12 → lim d.val = 16) ∧ lim (d.val + 1) * 32 ≤ 18446744073709551616 := by decide +kernel
theorem word_size (x : Int) : (word x).size = 13 := by unfold word; rw [strOfNums_size, ds_length]

-- Ev
/-- With fuel enough the run answers r. -/
def Ev {α : Type} (f : Nat → Option α) (r : α) : Prop := ∃ K, ∀ k, K ≤ k → f k = some r
theorem Ev.pure {α : Type} {r : α} : Ev (fun _ => some r) r := ⟨0, fun _ _ => rfl⟩
theorem Ev.of {α : Type} {f : Nat → Option α} {r : α} (N : Nat) (h : ∀ k, N ≤ k → f k = some r) : Ev f r := ⟨N, h⟩
theorem Ev.step {α : Type} {f : Nat → Option α} {r : α} (h : Ev (fun k => f (k + 1)) r) : Ev f r := by
  obtain ⟨K, h⟩ := h
  refine ⟨K + 1, fun k hk => ?_⟩
  obtain ⟨m, rfl⟩ : ∃ m, k = m + 1 := ⟨k - 1, by omega⟩
  exact h m (by omega)
theorem Ev.bind {α β : Type} {f : Nat → Option α} {g : Nat → α → Option β} {a : α} {r : β} (h : Ev f a) (h2 : Ev (fun k => g k a) r) : Ev (fun k => (f k).bind (g k)) r := by
  obtain ⟨K, h⟩ := h
  obtain ⟨K2, h2⟩ := h2
  refine ⟨K + K2, fun k hk => ?_⟩
  show (f k).bind (g k) = some r
  rw [h k (by omega)]
  exact h2 k (by omega)
theorem Ev.cons {α β : Type} {x : Option α} {g : Nat → α → Option β} {a : α} {r : β} (h : x = some a) (h2 : Ev (fun k => g k a) r) : Ev (fun k => x.bind (g k)) r := by
  subst h
  exact h2
theorem Ev.pos {α : Type} {c : Prop} [Decidable c] {f g : Nat → Option α} {r : α} (hc : c) (h : Ev f r) : Ev (fun k => if c then f k else g k) r := by
  simpa only [if_pos hc] using h
theorem Ev.neg {α : Type} {c : Prop} [Decidable c] {f g : Nat → Option α} {r : α} (hc : ¬ c) (h : Ev g r) : Ev (fun k => if c then f k else g k) r := by
  simpa only [if_neg hc] using h
theorem Ev.at {α : Type} {f : Nat → Option α} {r : α} (h : Ev f r) : ∃ k, f k = some r := by
  obtain ⟨K, h⟩ := h
  exact ⟨K, h K (Nat.le_refl _)⟩
theorem Ev.uniq {α : Type} {f : Nat → Option α} {r s : α} (h : Ev f r) (h2 : Ev f s) : r = s := by
  obtain ⟨K, h⟩ := h
  obtain ⟨K2, h2⟩ := h2
  have a := h (K + K2) (by omega)
  have b := h2 (K + K2) (by omega)
  rw [a] at b
  exact Option.some.inj b
/-- From the end down. -/
theorem downTo (n : Nat) (P : Nat → Prop) (base : P n) (step : ∀ i, i < n → P (i + 1) → P i) : ∀ i, i ≤ n → P i := by
  intro i hi
  obtain ⟨d, rfl⟩ : ∃ d, i = n - d := ⟨n - i, by omega⟩
  clear hi
  induction d with
  | zero => exact base
  | succ d ih =>
    by_cases h : d < n
    · refine step _ (by omega) ?_
      have e : n - (d + 1) + 1 = n - d := by omega
      rw [e]; exact ih
    · have e : n - (d + 1) = n - d := by omega
      rw [e]; exact ih
theorem upN (i : Nat) (h : i < 1000000000000000) : wrap64 ((i : Int) + 1) = ((i + 1 : Nat) : Int) := by unfold wrap64; omega
theorem dnN (i : Nat) (h : i < 1000000000000000) (h0 : 0 < i) : wrap64 ((i : Int) - 1) = ((i - 1 : Nat) : Int) := by unfold wrap64; omega
/-- A loop that sets place by place leaves the row's picture. -/
theorem setLoop {A B : Type} (L : Nat → List B → Int → Option (List B)) (x : List A) (c : A → B)
    (step : ∀ (i : Nat) (y : List B) (r : List B) (h : i < x.length), y.length = x.length → Ev (fun k => L k (y.set i (c x[i])) ((i + 1 : Nat) : Int)) r → Ev (fun k => L k y (i : Int)) r)
    (stop : ∀ y : List B, y.length = x.length → Ev (fun k => L k y ((x.length : Nat) : Int)) y) :
    ∀ y : List B, y.length = x.length → Ev (fun k => L k y 0) (x.map c) := by
  have main := downTo x.length (fun i => ∀ y : List B, y.length = x.length → y.take i = (x.map c).take i → Ev (fun k => L k y (i : Int)) (x.map c)) ?_ ?_
  · intro y hy
    exact main 0 (by omega) y hy (by simp)
  · intro y hy he
    rw [List.take_of_length_le (by omega), List.take_of_length_le (by simp)] at he
    have := stop y hy
    rw [he] at this
    rw [he] at hy
    exact he ▸ stop y (by rw [he]; exact hy)
  · intro i hi ih y hy he
    refine step i y _ hi hy (ih _ (by simp [hy]) ?_)
    rw [List.take_add_one, List.take_add_one, List.take_set_of_le (by omega), he, List.getElem?_set_self (by omega)]
    simp [List.getElem?_eq_getElem hi]
theorem countLoop {α : Type} (L : Nat → Int → Option α) (n : Nat) (r : α) (step : ∀ i : Nat, i < n → Ev (fun k => L k ((i + 1 : Nat) : Int)) r → Ev (fun k => L k (i : Int)) r) (stop : Ev (fun k => L k ((n : Nat) : Int)) r) : Ev (fun k => L k 0) r :=
  downTo n (fun i => Ev (fun k => L k (i : Int)) r) stop (fun i hi h => step i hi h) 0 (by omega)

-- Strs
theorem rdStr (l : List ByteArray) (i : Nat) (h : i < l.length) : rdOf ByteArray.empty l (i : Int) = l[i] := by unfold rdOf; simp [List.getD_eq_getElem?_getD, List.getElem?_eq_getElem h]
theorem szStringS_ev (x : List ByteArray) (hx : x.length ≤ 9223372036854775807) (m : Int) (h0 : 0 ≤ m) (h1 : m ≤ 1048576) (ok : ∀ g ∈ x, g.size ≤ 9223372036854775807) : ∃ t, Ev (fun k => laws_szStringS.f k x m) t ∧ (0 ≤ t → t ≤ m ∧ x.length ≤ 1048576) ∧ t ≤ 1048576 := by
  unfold laws_szStringS.f
  rw [w64 _ (by omega) (by omega)]
  by_cases h : m - (x.length : Int) < 0
  · exact ⟨_, Ev.pos h Ev.pure, by omega, by omega⟩
  · have key := downTo x.length (fun i => ∀ a : Int, 0 ≤ a → a ≤ 1048576 → ∃ t, Ev (fun k => laws_szStringS.l0 k x a (i : Int)) t ∧ (0 ≤ t → t ≤ a) ∧ t ≤ 1048576) ?_ ?_ 0 (by omega)
    · obtain ⟨t, a, b, c⟩ := key (m - (x.length : Int)) (by omega) (by omega)
      exact ⟨t, Ev.neg h a, by omega, c⟩
    · intro a a0 a1
      refine ⟨a, Ev.step ?_, by omega, a1⟩
      simp only [laws_szStringS.l0]
      exact Ev.neg (by omega) Ev.pure
    · intro i hi ih a a0 a1
      have hs := ok _ (List.getElem_mem hi)
      have hw : wrap64 (a - ((x[i]).size : Int)) = a - ((x[i]).size : Int) := w64 _ (by omega) (by omega)
      by_cases h2 : a - ((x[i]).size : Int) < 0
      · refine ⟨-1, Ev.step ?_, by omega, by omega⟩
        simp only [laws_szStringS.l0, rdStr x i hi, hw]
        exact Ev.pos (by omega) (Ev.pos (by omega) (Ev.pos h2 Ev.pure))
      · obtain ⟨r, hr, hr2, hr3⟩ := ih (a - ((x[i]).size : Int)) (by omega) (by omega)
        refine ⟨r, Ev.step ?_, by omega, by omega⟩
        simp only [laws_szStringS.l0, rdStr x i hi, hw, upN i (by omega)]
        exact Ev.pos (by omega) (Ev.pos (by omega) (Ev.neg h2 hr))
theorem toStringS_ev (x : List ByteArray) (hx : x.length ≤ 1048576) : Ev (fun k => laws_toStringS.f k x) x := by
  unfold laws_toStringS.f
  refine Ev.pos (by omega) (Ev.pos (by omega) ?_)
  have := setLoop (fun k y i => laws_toStringS.l0 k x y i) x (fun s => s) ?_ ?_ (List.replicate ((x.length : Int)).toNat (⟨#[]⟩ : ByteArray)) (by simp)
  · simpa using this
  · intro i y r hi hy h
    refine Ev.step ?_
    simp only [laws_toStringS.l0, rdStr x i hi, upN i (by omega)]
    exact Ev.pos (by omega) (Ev.pos (by omega) (Ev.pos (by omega) h))
  · intro y hy
    refine Ev.step ?_
    simp only [laws_toStringS.l0]
    exact Ev.neg (by omega) Ev.pure
theorem eqStringS_ev (x : List ByteArray) (hx : x.length ≤ 1048576) : Ev (fun k => laws_eqStringS.f k x x) true := by
  unfold laws_eqStringS.f
  refine Ev.pos rfl ?_
  refine countLoop (fun k i => laws_eqStringS.l0 k x x i) x.length true ?_ ?_
  · intro i hi h
    refine Ev.step ?_
    simp only [laws_eqStringS.l0, upN i (by omega)]
    exact Ev.pos (by omega) (Ev.pos (by omega) (Ev.pos (by omega) (Ev.pos trivial h)))
  · refine Ev.step ?_
    simp only [laws_eqStringS.l0]
    exact Ev.neg (by omega) Ev.pure

-- MarkT
theorem markText_go : ∀ (n : Nat) (a : Int) (x : ByteArray), 0 ≤ a → a.toNat ≤ n → x.size + n ≤ 1000000000000000 → ∃ s, Ev (fun k => laws_markText.l0 k a x) s := by
  intro n
  induction n with
  | zero =>
    intro a x h0 h1 h2
    refine ⟨(⟨#[109]⟩ : ByteArray) ++ x, Ev.step ?_⟩
    simp only [laws_markText.l0]
    exact Ev.neg (by omega) (Ev.pos (by omega) Ev.pure)
  | succ n ih =>
    intro a x h0 h1 h2
    by_cases h : a > 0
    · have e : Int.tdiv a 10 = a / 10 := Int.tdiv_eq_ediv_of_nonneg h0
      have w : wrap64 (Int.tdiv a 10) = a / 10 := by rw [e]; unfold wrap64; omega
      obtain ⟨s, hs⟩ := ih (a / 10) (strOfNums [(wrap64 (48 + (Int.tmod a 10))) % 256] ++ x) (by omega) (by omega) (by rw [ByteArray.size_append, strOfNums_size]; simp only [List.length_singleton]; omega)
      refine ⟨s, Ev.step ?_⟩
      simp only [laws_markText.l0, w]
      refine Ev.pos h ?_
      simp only [Option.bind_some]
      exact Ev.pos (by rw [strOfNums_size]; simp only [List.length_singleton]; omega) hs
    · refine ⟨(⟨#[109]⟩ : ByteArray) ++ x, Ev.step ?_⟩
      simp only [laws_markText.l0]
      exact Ev.neg h (Ev.pos (by omega) Ev.pure)
theorem markText_ev (a : Int) (h0 : 0 ≤ a) (h1 : a ≤ 100000000000000) : ∃ s, Ev (fun k => laws_markText.f k a) s := by
  unfold laws_markText.f
  by_cases h : a ≤ 0
  · exact ⟨_, Ev.pos h Ev.pure⟩
  · obtain ⟨s, hs⟩ := markText_go a.toNat a (⟨#[]⟩ : ByteArray) h0 (Nat.le_refl _) (by show 0 + _ ≤ _; omega)
    exact ⟨s, Ev.neg h hs⟩
/-- The words that the marks from a on are. -/
def Marks (a : Int) (y : List ByteArray) : Prop := ∀ (i : Nat) (h : i < y.length), Ev (fun k => laws_markText.f k (a + (i : Int))) y[i]
theorem markStringS_ev (x : List ByteArray) (hx : x.length ≤ 10000000) (a : Int) (h0 : 0 ≤ a) (h1 : a ≤ 10000000) : ∃ y, y.length = x.length ∧ Marks a y ∧ Ev (fun k => laws_markStringS.f k x a) (a + x.length, y) := by
  have key := downTo x.length (fun i => ∀ y : List ByteArray, y.length = x.length → (∀ (j : Nat) (h : j < y.length), j < i → Ev (fun k => laws_markText.f k (a + (j : Int))) y[j]) → ∃ z, z.length = x.length ∧ Marks a z ∧ Ev (fun k => laws_markStringS.l0 k y (a + (i : Int)) (i : Int)) (a + x.length, z)) ?_ ?_ 0 (by omega)
  · obtain ⟨z, z1, z2, z3⟩ := key x rfl (fun j _ h => by omega)
    refine ⟨z, z1, z2, ?_⟩
    unfold laws_markStringS.f
    simpa using z3
  · intro y hy hm
    refine ⟨y, hy, fun i h => hm i h (by omega), Ev.step ?_⟩
    simp only [laws_markStringS.l0]
    exact Ev.neg (by omega) Ev.pure
  · intro i hi ih y hy hm
    obtain ⟨s, hs⟩ := markText_ev (a + (i : Int)) (by omega) (by omega)
    obtain ⟨z, z1, z2, z3⟩ := ih (y.set i s) (by simpa using hy) (fun j h hj => by
      rw [List.getElem_set]
      split
      · rename_i e
        subst e
        exact hs
      · exact hm j (by simpa using h) (by omega))
    refine ⟨z, z1, z2, Ev.step ?_⟩
    simp only [laws_markStringS.l0]
    refine Ev.pos (by omega) (Ev.bind hs (Ev.pos (by omega) ?_))
    have e1 : wrap64 (a + (i : Int) + 1) = a + ((i + 1 : Nat) : Int) := by unfold wrap64; omega
    rw [e1, upN i (by omega)]
    exact z3
theorem heldStringS_ev (y : List ByteArray) (hy : y.length ≤ 10000000) (a : Int) (h0 : 0 ≤ a) (h1 : a ≤ 10000000) (hm : Marks a y) : Ev (fun k => laws_heldStringS.f k y a) (a + y.length) := by
  unfold laws_heldStringS.f
  have key := downTo y.length (fun i => Ev (fun k => laws_heldStringS.l0 k y (a + (i : Int)) (i : Int)) (a + y.length)) ?_ ?_ 0 (by omega)
  · simpa using key
  · refine Ev.step ?_
    simp only [laws_heldStringS.l0]
    exact Ev.neg (by omega) Ev.pure
  · intro i hi ih
    refine Ev.step ?_
    simp only [laws_heldStringS.l0, rdStr y i hi]
    have e1 : wrap64 (a + (i : Int) + 1) = a + ((i + 1 : Nat) : Int) := by unfold wrap64; omega
    refine Ev.pos (by omega) (Ev.pos (by omega) (Ev.bind (hm i hi) (Ev.pos rfl ?_)))
    rw [e1, upN i (by omega)]
    exact ih

theorem rd71 (l : List S71) (i : Nat) (h : i < l.length) : rd_T71 l (i : Int) = l[i] := by unfold rd_T71; simp [List.getD_eq_getElem?_getD, List.getElem?_eq_getElem h]
theorem rd62 (l : List S62) (i : Nat) (h : i < l.length) : rd_T62 l (i : Int) = l[i] := by unfold rd_T62; simp [List.getD_eq_getElem?_getD, List.getElem?_eq_getElem h]
def cAct (x : S71) : S62 := ⟨x.f0, x.f1⟩
theorem szActS_ev (x : List S71) (hx : x.length ≤ 9223372036854775807) (m : Int) (h0 : 0 ≤ m) (h1 : m ≤ 1048576) (ok : ∀ g ∈ x, g.f1.size ≤ 9223372036854775807) : ∃ t, Ev (fun k => laws_szActS.f k x m) t ∧ (0 ≤ t → t ≤ m ∧ x.length ≤ 1048576) ∧ t ≤ 1048576 := by
  unfold laws_szActS.f
  rw [w64 _ (by omega) (by omega)]
  by_cases h : m - (x.length : Int) < 0
  · exact ⟨_, Ev.pos h Ev.pure, by omega, by omega⟩
  · have key := downTo x.length (fun i => ∀ a : Int, 0 ≤ a → a ≤ 1048576 → ∃ t, Ev (fun k => laws_szActS.l0 k x a (i : Int)) t ∧ (0 ≤ t → t ≤ a) ∧ t ≤ 1048576) ?_ ?_ 0 (by omega)
    · obtain ⟨t, a, b, c⟩ := key (m - (x.length : Int)) (by omega) (by omega)
      exact ⟨t, Ev.neg h a, by omega, c⟩
    · intro a a0 a1
      refine ⟨a, Ev.step ?_, by omega, a1⟩
      simp only [laws_szActS.l0]
      exact Ev.neg (by omega) Ev.pure
    · intro i hi ih a a0 a1
      have hs := ok _ (List.getElem_mem hi)
      have hw : wrap64 (a - ((x[i]).f1.size : Int)) = a - ((x[i]).f1.size : Int) := w64 _ (by omega) (by omega)
      by_cases h2 : a - ((x[i]).f1.size : Int) < 0
      · refine ⟨-1, Ev.step ?_, by omega, by omega⟩
        simp only [laws_szActS.l0, rd71 x i hi, laws_szAct.f, hw]
        exact Ev.pos (by omega) (Ev.pos (by omega) (Ev.cons (if_pos h2) (Ev.pos (by omega) Ev.pure)))
      · obtain ⟨r, hr, hr2, hr3⟩ := ih (a - ((x[i]).f1.size : Int)) (by omega) (by omega)
        refine ⟨r, Ev.step ?_, by omega, by omega⟩
        simp only [laws_szActS.l0, rd71 x i hi, laws_szAct.f, hw, upN i (by omega)]
        exact Ev.pos (by omega) (Ev.pos (by omega) (Ev.cons (if_neg h2) (Ev.neg h2 hr)))
theorem toActS_ev (x : List S71) (hx : x.length ≤ 1048576) : Ev (fun k => laws_toActS.f k x) (x.map cAct) := by
  unfold laws_toActS.f
  refine Ev.pos (by omega) (Ev.pos (by omega) ?_)
  have := setLoop (fun k y i => laws_toActS.l0 k x y i) x cAct ?_ ?_ (List.replicate ((x.length : Int)).toNat z62) (by simp)
  · simpa using this
  · intro i y r hi hy h
    refine Ev.step ?_
    simp only [laws_toActS.l0, rd71 x i hi, upN i (by omega)]
    exact Ev.pos (by omega) (Ev.pos (by omega) (Ev.cons rfl (Ev.pos (by omega) h)))
  · intro y hy
    refine Ev.step ?_
    simp only [laws_toActS.l0]
    exact Ev.neg (by omega) Ev.pure
theorem eqActS_ev (x : List S62) (hx : x.length ≤ 1048576) : Ev (fun k => laws_eqActS.f k x x) true := by
  unfold laws_eqActS.f
  refine Ev.pos rfl ?_
  refine countLoop (fun k i => laws_eqActS.l0 k x x i) x.length true ?_ ?_
  · intro i hi h
    refine Ev.step ?_
    simp only [laws_eqActS.l0, upN i (by omega)]
    exact Ev.pos (by omega) (Ev.pos (by omega) (Ev.pos (by omega) (Ev.cons (by unfold laws_eqAct.f; rw [if_pos rfl, if_pos rfl]) (Ev.pos rfl h))))
  · refine Ev.step ?_
    simp only [laws_eqActS.l0]
    exact Ev.neg (by omega) Ev.pure
theorem markActS_ev (x : List S62) (hx : x.length ≤ 1048576) (a : Int) (h0 : 0 ≤ a) (h1 : a ≤ 10000000) : ∃ y, Ev (fun k => laws_markActS.f k x a) (a + 2 * x.length, y) := by
  have key := downTo x.length (fun i => ∀ y : List S62, y.length = x.length → ∃ z, Ev (fun k => laws_markActS.l0 k y (a + 2 * (i : Int)) (i : Int)) (a + 2 * x.length, z)) ?_ ?_ 0 (by omega)
  · obtain ⟨z, z3⟩ := key x rfl
    refine ⟨z, ?_⟩
    unfold laws_markActS.f
    simpa using z3
  · intro y hy
    refine ⟨y, Ev.step ?_⟩
    simp only [laws_markActS.l0]
    exact Ev.neg (by omega) Ev.pure
  · intro i hi ih y hy
    obtain ⟨s, hs⟩ := markText_ev (a + 2 * (i : Int) + 1) (by omega) (by omega)
    have e1 : wrap64 (a + 2 * (i : Int) + 1) = a + 2 * (i : Int) + 1 := w64 _ (by omega) (by omega)
    have e2 : wrap64 (a + 2 * (i : Int) + 1 + 1) = a + 2 * ((i + 1 : Nat) : Int) := by unfold wrap64; omega
    obtain ⟨z, z3⟩ := ih ((y.set i (⟨a + 2 * (i : Int), (rd_T62 y (i : Int)).f1⟩ : S62)).set i (⟨(rd_T62 (y.set i (⟨a + 2 * (i : Int), (rd_T62 y (i : Int)).f1⟩ : S62)) (i : Int)).f0, s⟩ : S62)) (by simpa using hy)
    refine ⟨z, Ev.step ?_⟩
    simp only [laws_markActS.l0, e1, e2, upN i (by omega), Option.bind_some, Int.toNat_natCast]
    exact Ev.pos (by omega) (Ev.pos (by omega) (Ev.bind hs z3))
theorem insS_len (l : List ByteArray) (s : ByteArray) : (insS l s).length ≤ l.length + 1 := by
  induction l with
  | nil => simp [insS]
  | cons a r ih =>
    unfold insS
    repeat' split
    all_goals simp only [List.length_cons]
    all_goals omega
theorem l3Add_ev (l : List ByteArray) (s : ByteArray) (hl : l.length ≤ 1000000) : Ev (fun k => spec_l3Add.f k l s) (insS l s) := by
  unfold spec_l3Add.f
  have key := downTo l.length (fun i => Ev (fun k => spec_l3Add.l0 k l s (i : Int)) (l.take i ++ insS (l.drop i) s)) ?_ ?_ 0 (by omega)
  · simpa using key
  · refine Ev.step ?_
    simp only [spec_l3Add.l0, Option.bind_some, Int.toNat_natCast, List.nil_append]
    refine Ev.neg (by omega) (Ev.pos (by omega) (Ev.pos (by omega) (Ev.pos (by simp; omega) (Ev.pos (by simp; omega) (Ev.pos (by simp; omega) ?_)))))
    simp [insS]
    exact Ev.pure
  · intro i hi ih
    refine Ev.step ?_
    simp only [spec_l3Add.l0, Option.bind_some, Int.toNat_natCast, List.nil_append, rdStr l i hi, upN i (by omega)]
    refine Ev.pos (by omega) (Ev.pos (by omega) ?_)
    rw [List.drop_eq_getElem_cons hi, insS]
    by_cases c : Op.bytesLess (l[i]).toList s.toList = true
    · rw [if_pos c]
      rw [← List.take_append_getElem hi, List.append_assoc] at ih
      exact Ev.pos c ih
    · rw [if_neg c]
      refine Ev.neg c ?_
      by_cases c2 : (l[i]).toList = s.toList
      · refine Ev.pos c2 ?_
        rw [if_pos c2, ← List.drop_eq_getElem_cons hi, List.take_append_drop]
        exact Ev.pure
      · refine Ev.neg c2 (Ev.pos (by omega) (Ev.pos (by simp; omega) (Ev.pos (by simp; omega) (Ev.pos (by simp; omega) ?_))))
        rw [if_neg c2, ← List.drop_eq_getElem_cons hi, List.append_assoc]
        exact Ev.pure
theorem delS_cons (a : ByteArray) (r : List ByteArray) (s : ByteArray) : delS (a :: r) s = if a.toList = s.toList then delS r s else a :: delS r s := by
  unfold delS
  rw [List.filter_cons]
  by_cases c : a.toList = s.toList
  · simp [c]
  · simp [c]
theorem specDel_ev (x1 : List S62) (ks : List ByteArray) (hk : ks.length ≤ 1000000) (i : Nat) (hi : i < x1.length) (hx : x1.length ≤ 2000) (r : List ByteArray) (h : Ev (fun k => spec_ApplyActs.l1 k x1 (delS ks (x1[i]).f1) ((i + 1 : Nat) : Int)) r) : Ev (fun k => spec_ApplyActs.l2 k x1 ks (i : Int) ([] : List ByteArray) 0) r := by
  have key := downTo ks.length (fun j => ∀ out : List ByteArray, out.length ≤ j → out ++ delS (ks.drop j) (x1[i]).f1 = delS ks (x1[i]).f1 → Ev (fun k => spec_ApplyActs.l2 k x1 ks (i : Int) out (j : Int)) r) ?_ ?_ 0 (by omega)
  · exact key [] (by simp) (by simp)
  · intro out ho he
    refine Ev.step ?_
    simp only [spec_ApplyActs.l2, upN i (by omega)]
    have e : out = delS ks (x1[i]).f1 := by rw [← he, List.drop_length]; simp [delS]
    rw [e]
    exact Ev.neg (by omega) h
  · intro j hj ih out ho he
    refine Ev.step ?_
    simp only [spec_ApplyActs.l2, rdStr ks j hj, rd62 x1 i hi, upN j (by omega)]
    refine Ev.pos (by omega) (Ev.pos (by omega) (Ev.pos (by omega) (Ev.pos (by omega) ?_)))
    rw [List.drop_eq_getElem_cons hj, delS_cons] at he
    by_cases c : (ks[j]).toList = ((x1[i]).f1).toList
    · rw [if_pos c] at he
      exact Ev.pos c (ih out (by omega) he)
    · rw [if_neg c] at he
      exact Ev.neg c (Ev.pos (by omega) (ih _ (by simp; omega) (by rw [List.append_assoc]; exact he)))
theorem delS_len (l : List ByteArray) (s : ByteArray) : (delS l s).length ≤ l.length := List.length_filter_le _ _
theorem specActs_ev (x1 : List S62) (hx : x1.length ≤ 2000) (ks : List ByteArray) (hk : ks.length ≤ 2000) : Ev (fun k => spec_ApplyActs.l1 k x1 ks 0) (actsGo ks x1) := by
  have key := downTo x1.length (fun i => ∀ ks : List ByteArray, ks.length ≤ 2000 + i → Ev (fun k => spec_ApplyActs.l1 k x1 ks (i : Int)) (actsGo ks (x1.drop i))) ?_ ?_ 0 (by omega)
  · exact key ks (by omega)
  · intro ks hk
    refine Ev.step ?_
    simp only [spec_ApplyActs.l1]
    rw [List.drop_length, actsGo]
    exact Ev.neg (by omega) Ev.pure
  · intro i hi ih ks hk
    refine Ev.step ?_
    simp only [spec_ApplyActs.l1, upN i (by omega)]
    rw [actsGo_at x1 i hi, rd62 x1 i hi]
    refine Ev.pos (by omega) (Ev.pos (by omega) ?_)
    by_cases c : (x1[i]).f0 = 1
    · rw [if_pos c]
      exact Ev.pos c (specDel_ev x1 ks (by omega) i hi hx _ (ih _ (by have := delS_len ks (x1[i]).f1; omega)))
    · rw [if_neg c]
      exact Ev.neg c (Ev.bind (l3Add_ev ks (x1[i]).f1 (by omega)) (ih _ (by have := insS_len ks (x1[i]).f1; omega)))
theorem runGo_len (l : List ByteArray) : ∀ ks : List ByteArray, (runGo ks l).length ≤ ks.length + l.length := by
  induction l with
  | nil => intro ks; simp [runGo]
  | cons a r ih =>
    intro ks
    have h1 := ih (insS ks a)
    have h2 := insS_len ks a
    simp only [runGo, List.length_cons]
    omega
theorem actsGo_len (l : List S62) : ∀ ks : List ByteArray, (actsGo ks l).length ≤ ks.length + l.length := by
  induction l with
  | nil => intro ks; simp [actsGo]
  | cons a r ih =>
    intro ks
    have h1 := ih (if a.f0 = 1 then delS ks a.f1 else insS ks a.f1)
    have h2 := insS_len ks a.f1
    have h3 := delS_len ks a.f1
    simp only [actsGo, List.length_cons]
    by_cases c : a.f0 = 1
    · rw [if_pos c] at h1 ⊢
      omega
    · rw [if_neg c] at h1 ⊢
      omega
theorem specRun_ev (x0 : List ByteArray) (h0 : x0.length ≤ 2000) (x1 : List S62) (hx : x1.length ≤ 2000) : Ev (fun k => spec_ApplyActs.l0 k x0 x1 ([] : List ByteArray) 0) (actsGo (runGo [] x0) x1) := by
  have key := downTo x0.length (fun i => ∀ ks : List ByteArray, ks.length ≤ i → Ev (fun k => spec_ApplyActs.l0 k x0 x1 ks (i : Int)) (actsGo (runGo ks (x0.drop i)) x1)) ?_ ?_ 0 (by omega)
  · exact key [] (by simp)
  · intro ks hk
    refine Ev.step ?_
    simp only [spec_ApplyActs.l0]
    rw [List.drop_length, runGo]
    exact Ev.neg (by omega) (specActs_ev x1 hx ks (by omega))
  · intro i hi ih ks hk
    refine Ev.step ?_
    simp only [spec_ApplyActs.l0, upN i (by omega), rdStr x0 i hi]
    rw [runGo_at x0 i hi]
    exact Ev.pos (by omega) (Ev.pos (by omega) (Ev.bind (l3Add_ev ks x0[i] (by omega)) (ih _ (by have := insS_len ks x0[i]; omega))))
def actsOf (x0 : List ByteArray) (x1 : List S62) : List ByteArray := if 2000 < x0.length ∨ 2000 < x1.length then [] else actsGo (runGo [] x0) x1
theorem specApply_ev (x0 : List ByteArray) (x1 : List S62) : Ev (fun k => spec_ApplyActs.f k x0 x1) (actsOf x0 x1) := by
  unfold spec_ApplyActs.f actsOf
  simp only [Option.bind_some]
  by_cases h : 2000 < x0.length
  · rw [if_pos (Or.inl h)]
    refine Ev.pos (by omega) (Ev.step ?_)
    simp only [spec_ApplyActs.j0]
    exact Ev.pos trivial Ev.pure
  · refine Ev.neg (by omega) (Ev.step ?_)
    simp only [spec_ApplyActs.j0]
    by_cases h2 : 2000 < x1.length
    · rw [if_pos (Or.inr h2)]
      exact Ev.pos (by simp; omega) Ev.pure
    · rw [if_neg (by omega)]
      exact Ev.neg (by simp; omega) (specRun_ev x0 (by omega) x1 (by omega))
theorem actsOf_len (x0 : List ByteArray) (x1 : List S62) : (actsOf x0 x1).length ≤ 4000 := by
  unfold actsOf
  split
  · simp
  · have h1 := actsGo_len x1 (runGo [] x0)
    have h2 := runGo_len x0 []
    simp only [List.length_nil] at h2
    omega
theorem FnExactApplyActs : laws_FnExactApplyActs.Pure := by
  intro l0 l1 o0 o1
  have mx : maxLen = 9223372036854775807 := by decide
  have hl : l0.length ≤ 9223372036854775807 ∧ ∀ s ∈ l0, s.size ≤ 9223372036854775807 := by
    rw [← mx]
    exact o0
  have hm : l1.length ≤ 9223372036854775807 ∧ ∀ s ∈ l1, s.f1.size ≤ 9223372036854775807 := by
    rw [← mx]
    exact ⟨o1.1, fun s hs => (o1.2 s hs).2⟩
  refine Ev.at ?_
  unfold laws_FnExactApplyActs.f
  obtain ⟨t, ht, hl1, hl2⟩ := szStringS_ev l0 hl.1 1048576 (by omega) (by omega) hl.2
  refine Ev.bind ht ?_
  by_cases h0 : t < 0
  · exact Ev.pos h0 Ev.pure
  refine Ev.neg h0 ?_
  obtain ⟨u, hu, hu1, hu2⟩ := szActS_ev l1 hm.1 t (by omega) hl2 hm.2
  refine Ev.bind hu ?_
  by_cases h2 : u < 0
  · exact Ev.pos h2 Ev.pure
  refine Ev.neg h2 ?_
  have p := (hl1 (by omega)).2
  have q := (hu1 (by omega)).2
  have q' : (l1.map cAct).length ≤ 1048576 := by simpa using q
  have hf : impl_ApplyActs.f l0 (l1.map cAct) = some (actsOf l0 (l1.map cAct)) := by
    unfold impl_ApplyActs.f actsOf
    split
    · rfl
    · rw [if_pos]
      constructor
      · rw [List.all_eq_true]
        intro s hs
        exact decide_eq_true (hl.2 s hs)
      · rw [List.all_eq_true]
        intro s hs
        obtain ⟨y, hy, rfl⟩ := List.mem_map.1 hs
        exact decide_eq_true (hm.2 y hy)
  have hg := actsOf_len l0 (l1.map cAct)
  obtain ⟨g, hgg⟩ : ∃ g, actsOf l0 (l1.map cAct) = g := ⟨_, rfl⟩
  have hs := specApply_ev l0 (l1.map cAct)
  rw [hgg] at hf hg hs
  have hA := toStringS_ev l0 p
  have hB := toActS_ev l1 q
  have hE := eqStringS_ev g (by omega)
  obtain ⟨y0, _, _, hy0⟩ := markStringS_ev l0 (by omega) 1 (by omega) (by omega)
  obtain ⟨y1, hy1⟩ := markActS_ev (l1.map cAct) q' (1 + (l0.length : Int)) (by omega) (by omega)
  obtain ⟨yg, hyl, hym, hyg⟩ := markStringS_ev g (by omega) 1 (by omega) (by omega)
  have hH := heldStringS_ev yg (by omega) 1 (by omega) (by omega) hym
  rw [hyl] at hH
  refine Ev.bind hA (Ev.bind hB (Ev.bind hs (Ev.bind hA (Ev.bind hB (Ev.cons hf (Ev.bind hE (Ev.pos rfl (Ev.bind hA (Ev.bind (eqStringS_ev l0 p) (Ev.pos rfl (Ev.bind hB (Ev.bind (eqActS_ev _ q') (Ev.pos rfl (Ev.bind hy0 (Ev.bind hy1 (Ev.neg (by show ¬ (1 + (l0.length : Int) + 2 * _ < 0); omega) (Ev.bind hE (Ev.step ?_))))))))))))))))))
  simp only [laws_FnExactApplyActs.j0]
  exact Ev.neg (by simp) (Ev.bind hyg (Ev.bind hH (Ev.neg (by omega) (Ev.pos rfl (Ev.bind hA (Ev.bind hB (Ev.cons hf (Ev.bind hE (Ev.pos rfl (Ev.bind hH (Ev.neg (by omega) (Ev.pos rfl Ev.pure))))))))))))

end Go.Proofs.Ytnahkojlamficaa.Pure
