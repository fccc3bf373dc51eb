/- The pure statement of FnExactClash: the words that were seen are those that stand ahead. -/
import Derived.Test.YtobeibhoabakmaaPFnExactClashx0
import Derived.Test.YtobeibhoabakmaaPFnExactClashx1
import Derived.Test.YtobeibhoabakmaaPFnExactClashx2
import Derived.Laws.BitsLemmas
import Derived.Laws.Bits64b
import Derived.Lib.Bytealg
namespace Go.Proofs.Ytobeibhoabakmaa.Pure
open Go.RowKit Go.Proofs.YtobeibhoabakmaaW.PrintWords Go.Proofs.YtobeibhoabakmaaW.PrintLast Go.Proofs.YtobeibhoabakmaaW.PrintMore Go.Proofs.Ytobeibhoabakmaa.PFnExactClash

theorem u64w (n : Int) (h0 : 0 ≤ n) (h1 : n < 18446744073709551616) : IntKind.u64.wrap n = n := by
  simp [IntKind.wrap, IntKind.signed, IntKind.bits]; omega
theorem i64w (n : Int) (h0 : -9223372036854775808 ≤ n) (h1 : n < 9223372036854775808) : IntKind.i64.wrap n = n := by
  rw [IntKind.wrap_i64]; omega
theorem w64 (n : Int) (h0 : -9223372036854775808 ≤ n) (h1 : n < 9223372036854775808) : wrap64 n = n := by unfold wrap64; omega
theorem up1 (i : Int) (h0 : 0 ≤ i) (h : i < 9223372036854775807) : wrap64 (i + 1) = i + 1 := by unfold wrap64; omega
theorem u64_lo (n : Int) : 0 ≤ IntKind.u64.wrap n := by simp [IntKind.wrap, IntKind.signed, IntKind.bits]; omega
theorem u64_hi (n : Int) : IntKind.u64.wrap n < 18446744073709551616 := by simp [IntKind.wrap, IntKind.signed, IntKind.bits]; omega
theorem u64_wf (x : Int) (h : (Lit.int .u64 x).wf = true) : 0 ≤ x ∧ x < 18446744073709551616 := by
  simp [Lit.wf, IntKind.min, IntKind.max, IntKind.signed, IntKind.bits] at h; omega
theorem and31 (x : Int) (h0 : 0 ≤ x) (h1 : x < 18446744073709551616) : Go.bits .and .u64 x 31 = x % 32 := by
  have := bits_mask .u64 64 (by decide) (fun n a b => u64w n a (by simpa using b)) 5 (by decide) x h0 (by simpa using h1)
  simpa using this
theorem or5 (a c : Int) (h0 : 0 ≤ a) (h1 : a * 32 < 18446744073709551616) (hc0 : 0 ≤ c) (hc : c < 32) : Go.bits .or .u64 (a * 32) c = a * 32 + c := by
  have := bits_join .u64 64 (by decide) (fun n x y => u64w n x (by simpa using y)) 5 (a * 32) c (by omega) (by omega) (by simpa using h1) hc0 (by simpa using hc) (by simp; omega)
  exact this
theorem bt_list (l : List UInt8) (i : Int) : bt ⟨l.toArray⟩ i = ((l.getD i.toNat 0).toNat : Int) := by
  unfold bt
  split
  · rename_i h
    have h' : i.toNat < l.length := by simpa [ByteArray.size] using h
    rw [List.getD_eq_getElem?_getD, List.getElem?_eq_getElem h']
    rfl
  · rename_i h
    have h' : l.length ≤ i.toNat := by simpa [ByteArray.size] using h
    rw [List.getD_eq_getElem?_getD, List.getElem?_eq_none h']; rfl
/-- The alphabet of chapter 1. -/
def alpha : ByteArray := ⟨#[48, 49, 50, 51, 52, 53, 54, 55, 56, 57, 97, 98, 99, 100, 102, 103, 104, 105, 106, 107, 108, 109, 110, 112, 113, 114, 115, 118, 119, 120, 121, 122]⟩
/-- The n-th digit from the right, as its byte. -/
def dg (x : Int) (n : Nat) : Int := bt alpha (x / 2 ^ (5 * n) % 32)
/-- The last n digits. -/
def ds (x : Int) : Nat → List Int
  | 0 => []
  | n + 1 => dg x n :: ds x n
theorem ds_length (x : Int) : ∀ n, (ds x n).length = n
  | 0 => rfl
  | n + 1 => by simp [ds, ds_length x n]
/-- The thirteen bytes. -/
def word (x : Int) : ByteArray := strOfNums (ds x 13)
theorem div_lo (x : Int) (h0 : 0 ≤ x) (n : Nat) : 0 ≤ x / 2 ^ n := Int.ediv_nonneg h0 (by have := Nat.two_pow_pos n; exact_mod_cast Nat.zero_le _)
theorem div_hi (x : Int) (h0 : 0 ≤ x) (n : Nat) : x / 2 ^ n ≤ x := Int.ediv_le_self _ h0
theorem shr5 (x : Int) (n : Nat) (hn : n ≤ 12) : shr .u64 x (5 * n) = x / 2 ^ (5 * n) := by
  unfold shr
  have e : (5 * (n : Int)).toNat = 5 * n := by omega
  rw [e, Nat.min_eq_left (by simp [IntKind.bits]; omega)]
/-- What a byte is worth as a digit; -1: it is none. -/
def dv (c : Int) : Int := Lib.indexByte alpha.data.toList c.toNat.toUInt8
theorem dv_all : ∀ c : Fin 256, -1 ≤ dv (c.val : Int) ∧ dv (c.val : Int) < 32 := by decide +kernel
theorem dv_bounds (c : Int) (h0 : 0 ≤ c) (h1 : c ≤ 255) : -1 ≤ dv c ∧ dv c < 32 := by
  have := dv_all ⟨c.toNat, by omega⟩
  simpa [Int.toNat_of_nonneg h0] using this
/-- The number that thirteen digits tell, from the i-th on. -/
def rwGo (s : ByteArray) : Nat → Int → Nat → Int × Bool
  | 0, x, _ => (x, true)
  | d + 1, x, i => if dv (bt s i) < 0 then (0, false) else if i = 0 ∧ dv (bt s i) > 15 then (0, false) else rwGo s d (x * 32 + dv (bt s i)) (i + 1)
def rw32 (s : ByteArray) : Int × Bool := if s.size = 13 then rwGo s 13 0 0 else (0, false)
/-- The bound that the digits so far keep. -/
def lim (d : Nat) : Int := if d = 13 then 1 else 2 ^ (64 - 5 * d)
theorem lim_all : ∀ d : Fin 13, lim d.val ≤ 18446744073709551616 ∧ 0 < lim d.val ∧ (d.val < 12 → lim (d.val + 1) * 32 = lim d.val) ∧ (d.val = 12 → lim d.val = 16) ∧ lim (d.val + 1) * 32 ≤ 18446744073709551616 := by decide +kernel
theorem word_size (x : Int) : (word x).size = 13 := by unfold word; rw [strOfNums_size, ds_length]

-- Ev
/-- With fuel enough the run answers r. -/
def Ev {α : Type} (f : Nat → Option α) (r : α) : Prop := ∃ K, ∀ k, K ≤ k → f k = some r
theorem Ev.pure {α : Type} {r : α} : Ev (fun _ => some r) r := ⟨0, fun _ _ => rfl⟩
theorem Ev.of {α : Type} {f : Nat → Option α} {r : α} (N : Nat) (h : ∀ k, N ≤ k → f k = some r) : Ev f r := ⟨N, h⟩
theorem Ev.step {α : Type} {f : Nat → Option α} {r : α} (h : Ev (fun k => f (k + 1)) r) : Ev f r := by
  obtain ⟨K, h⟩ := h
  refine ⟨K + 1, fun k hk => ?_⟩
  obtain ⟨m, rfl⟩ : ∃ m, k = m + 1 := ⟨k - 1, by omega⟩
  exact h m (by omega)
theorem Ev.bind {α β : Type} {f : Nat → Option α} {g : Nat → α → Option β} {a : α} {r : β} (h : Ev f a) (h2 : Ev (fun k => g k a) r) : Ev (fun k => (f k).bind (g k)) r := by
  obtain ⟨K, h⟩ := h
  obtain ⟨K2, h2⟩ := h2
  refine ⟨K + K2, fun k hk => ?_⟩
  show (f k).bind (g k) = some r
  rw [h k (by omega)]
  exact h2 k (by omega)
theorem Ev.cons {α β : Type} {x : Option α} {g : Nat → α → Option β} {a : α} {r : β} (h : x = some a) (h2 : Ev (fun k => g k a) r) : Ev (fun k => x.bind (g k)) r := by
  subst h
  exact h2
theorem Ev.pos {α : Type} {c : Prop} [Decidable c] {f g : Nat → Option α} {r : α} (hc : c) (h : Ev f r) : Ev (fun k => if c then f k else g k) r := by
  simpa only [if_pos hc] using h
theorem Ev.neg {α : Type} {c : Prop} [Decidable c] {f g : Nat → Option α} {r : α} (hc : ¬ c) (h : Ev g r) : Ev (fun k => if c then f k else g k) r := by
  simpa only [if_neg hc] using h
theorem Ev.at {α : Type} {f : Nat → Option α} {r : α} (h : Ev f r) : ∃ k, f k = some r := by
  obtain ⟨K, h⟩ := h
  exact ⟨K, h K (Nat.le_refl _)⟩
theorem Ev.uniq {α : Type} {f : Nat → Option α} {r s : α} (h : Ev f r) (h2 : Ev f s) : r = s := by
  obtain ⟨K, h⟩ := h
  obtain ⟨K2, h2⟩ := h2
  have a := h (K + K2) (by omega)
  have b := h2 (K + K2) (by omega)
  rw [a] at b
  exact Option.some.inj b
/-- From the end down. -/
theorem downTo (n : Nat) (P : Nat → Prop) (base : P n) (step : ∀ i, i < n → P (i + 1) → P i) : ∀ i, i ≤ n → P i := by
  intro i hi
  obtain ⟨d, rfl⟩ : ∃ d, i = n - d := ⟨n - i, by omega⟩
  clear hi
  induction d with
  | zero => exact base
  | succ d ih =>
    by_cases h : d < n
    · refine step _ (by omega) ?_
      have e : n - (d + 1) + 1 = n - d := by omega
      rw [e]; exact ih
    · have e : n - (d + 1) = n - d := by omega
      rw [e]; exact ih
theorem upN (i : Nat) (h : i < 1000000000000000) : wrap64 ((i : Int) + 1) = ((i + 1 : Nat) : Int) := by unfold wrap64; omega
theorem dnN (i : Nat) (h : i < 1000000000000000) (h0 : 0 < i) : wrap64 ((i : Int) - 1) = ((i - 1 : Nat) : Int) := by unfold wrap64; omega
/-- A loop that sets place by place leaves the row's picture. -/
theorem setLoop {A B : Type} (L : Nat → List B → Int → Option (List B)) (x : List A) (c : A → B)
    (step : ∀ (i : Nat) (y : List B) (r : List B) (h : i < x.length), y.length = x.length → Ev (fun k => L k (y.set i (c x[i])) ((i + 1 : Nat) : Int)) r → Ev (fun k => L k y (i : Int)) r)
    (stop : ∀ y : List B, y.length = x.length → Ev (fun k => L k y ((x.length : Nat) : Int)) y) :
    ∀ y : List B, y.length = x.length → Ev (fun k => L k y 0) (x.map c) := by
  have main := downTo x.length (fun i => ∀ y : List B, y.length = x.length → y.take i = (x.map c).take i → Ev (fun k => L k y (i : Int)) (x.map c)) ?_ ?_
  · intro y hy
    exact main 0 (by omega) y hy (by simp)
  · intro y hy he
    rw [List.take_of_length_le (by omega), List.take_of_length_le (by simp)] at he
    have := stop y hy
    rw [he] at this
    rw [he] at hy
    exact he ▸ stop y (by rw [he]; exact hy)
  · intro i hi ih y hy he
    refine step i y _ hi hy (ih _ (by simp [hy]) ?_)
    rw [List.take_add_one, List.take_add_one, List.take_set_of_le (by omega), he, List.getElem?_set_self (by omega)]
    simp [List.getElem?_eq_getElem hi]
theorem countLoop {α : Type} (L : Nat → Int → Option α) (n : Nat) (r : α) (step : ∀ i : Nat, i < n → Ev (fun k => L k ((i + 1 : Nat) : Int)) r → Ev (fun k => L k (i : Int)) r) (stop : Ev (fun k => L k ((n : Nat) : Int)) r) : Ev (fun k => L k 0) r :=
  downTo n (fun i => Ev (fun k => L k (i : Int)) r) stop (fun i hi h => step i hi h) 0 (by omega)

-- Strs
theorem rdStr (l : List ByteArray) (i : Nat) (h : i < l.length) : rdOf ByteArray.empty l (i : Int) = l[i] := by unfold rdOf; simp [List.getD_eq_getElem?_getD, List.getElem?_eq_getElem h]
theorem szStringS_ev (x : List ByteArray) (hx : x.length ≤ 9223372036854775807) (m : Int) (h0 : 0 ≤ m) (h1 : m ≤ 1048576) (ok : ∀ g ∈ x, g.size ≤ 9223372036854775807) : ∃ t, Ev (fun k => laws_szStringS.f k x m) t ∧ (0 ≤ t → t ≤ m ∧ x.length ≤ 1048576) ∧ t ≤ 1048576 := by
  unfold laws_szStringS.f
  rw [w64 _ (by omega) (by omega)]
  by_cases h : m - (x.length : Int) < 0
  · exact ⟨_, Ev.pos h Ev.pure, by omega, by omega⟩
  · have key := downTo x.length (fun i => ∀ a : Int, 0 ≤ a → a ≤ 1048576 → ∃ t, Ev (fun k => laws_szStringS.l0 k x a (i : Int)) t ∧ (0 ≤ t → t ≤ a) ∧ t ≤ 1048576) ?_ ?_ 0 (by omega)
    · obtain ⟨t, a, b, c⟩ := key (m - (x.length : Int)) (by omega) (by omega)
      exact ⟨t, Ev.neg h a, by omega, c⟩
    · intro a a0 a1
      refine ⟨a, Ev.step ?_, by omega, a1⟩
      simp only [laws_szStringS.l0]
      exact Ev.neg (by omega) Ev.pure
    · intro i hi ih a a0 a1
      have hs := ok _ (List.getElem_mem hi)
      have hw : wrap64 (a - ((x[i]).size : Int)) = a - ((x[i]).size : Int) := w64 _ (by omega) (by omega)
      by_cases h2 : a - ((x[i]).size : Int) < 0
      · refine ⟨-1, Ev.step ?_, by omega, by omega⟩
        simp only [laws_szStringS.l0, rdStr x i hi, hw]
        exact Ev.pos (by omega) (Ev.pos (by omega) (Ev.pos h2 Ev.pure))
      · obtain ⟨r, hr, hr2, hr3⟩ := ih (a - ((x[i]).size : Int)) (by omega) (by omega)
        refine ⟨r, Ev.step ?_, by omega, by omega⟩
        simp only [laws_szStringS.l0, rdStr x i hi, hw, upN i (by omega)]
        exact Ev.pos (by omega) (Ev.pos (by omega) (Ev.neg h2 hr))
theorem toStringS_ev (x : List ByteArray) (hx : x.length ≤ 1048576) : Ev (fun k => laws_toStringS.f k x) x := by
  unfold laws_toStringS.f
  refine Ev.pos (by omega) (Ev.pos (by omega) ?_)
  have := setLoop (fun k y i => laws_toStringS.l0 k x y i) x (fun s => s) ?_ ?_ (List.replicate ((x.length : Int)).toNat (⟨#[]⟩ : ByteArray)) (by simp)
  · simpa using this
  · intro i y r hi hy h
    refine Ev.step ?_
    simp only [laws_toStringS.l0, rdStr x i hi, upN i (by omega)]
    exact Ev.pos (by omega) (Ev.pos (by omega) (Ev.pos (by omega) h))
  · intro y hy
    refine Ev.step ?_
    simp only [laws_toStringS.l0]
    exact Ev.neg (by omega) Ev.pure
theorem eqStringS_ev (x : List ByteArray) (hx : x.length ≤ 1048576) : Ev (fun k => laws_eqStringS.f k x x) true := by
  unfold laws_eqStringS.f
  refine Ev.pos rfl ?_
  refine countLoop (fun k i => laws_eqStringS.l0 k x x i) x.length true ?_ ?_
  · intro i hi h
    refine Ev.step ?_
    simp only [laws_eqStringS.l0, upN i (by omega)]
    exact Ev.pos (by omega) (Ev.pos (by omega) (Ev.pos (by omega) (Ev.pos trivial h)))
  · refine Ev.step ?_
    simp only [laws_eqStringS.l0]
    exact Ev.neg (by omega) Ev.pure

theorem seen_at (l : List ByteArray) (i j : Nat) (hi : i < l.length) (hj : j < i) (s : ByteArray) : seenW ((l.take i).drop j) s = (decide ((l[j]).toList = s.toList) || seenW ((l.take i).drop (j + 1)) s) := by
  rw [List.drop_eq_getElem_cons (by simp; omega), seenW, List.getElem_take, Lib.toList_data, Lib.toList_data]
theorem specClash_in (l : List ByteArray) (hl : l.length ≤ 2000) (i : Nat) (hi : i < l.length) (r : ByteArray × Bool) (h : Ev (fun k => spec_Clash.l0 k l ((i + 1 : Nat) : Int)) r) :
    Ev (fun k => spec_Clash.l1 k l (i : Int) 0) (if seenW (l.take i) l[i] = true then (l[i], true) else r) := by
  have key := downTo i (fun j => Ev (fun k => spec_Clash.l1 k l (i : Int) (j : Int)) (if seenW ((l.take i).drop j) l[i] = true then (l[i], true) else r)) ?_ ?_ 0 (by omega)
  · simpa using key
  · refine Ev.step ?_
    simp only [spec_Clash.l1]
    have e : (l.take i).drop i = [] := List.drop_eq_nil_of_le (by simp; omega)
    rw [e, seenW, if_neg (by simp), upN i (by omega)]
    exact Ev.neg (by omega) h
  · intro j hj ih
    refine Ev.step ?_
    simp only [spec_Clash.l1, rdStr l i hi, rdStr l j (by omega), upN j (by omega), seen_at l i j hi hj]
    refine Ev.pos (by omega) (Ev.pos (by omega) (Ev.pos (by omega) (Ev.pos (by omega) (Ev.pos (by omega) ?_))))
    by_cases c : (l[j]).toList = (l[i]).toList
    · rw [decide_eq_true c, Bool.true_or, if_pos rfl]
      exact Ev.pos c Ev.pure
    · rw [decide_eq_false c, Bool.false_or]
      exact Ev.neg c ih
theorem specClash_ev (l : List ByteArray) (hx : l.length ≤ 1048576) : Ev (fun k => spec_Clash.f k l) (if 2000 < l.length then (⟨#[]⟩, false) else clashGo [] l) := by
  unfold spec_Clash.f
  by_cases h : 2000 < l.length
  · rw [if_pos h]
    refine Ev.step ?_
    simp only [spec_Clash.l0]
    refine Ev.pos (by omega) (Ev.step ?_)
    simp only [spec_Clash.j1]
    exact Ev.neg (by simp; omega) Ev.pure
  · rw [if_neg h]
    have key := downTo l.length (fun i => Ev (fun k => spec_Clash.l0 k l (i : Int)) (clashGo (l.take i) (l.drop i))) ?_ ?_ 0 (by omega)
    · simpa using key
    · refine Ev.step ?_
      simp only [spec_Clash.l0]
      refine Ev.neg (by omega) (Ev.step ?_)
      simp only [spec_Clash.j1]
      rw [List.drop_length, clashGo]
      exact Ev.neg (by simp) Ev.pure
    · intro i hi ih
      refine Ev.step ?_
      simp only [spec_Clash.l0]
      refine Ev.pos (by omega) (Ev.step ?_)
      simp only [spec_Clash.j1]
      refine Ev.pos (by simp; omega) ?_
      rw [clashGo_at l i hi l[i] (rdStr l i hi)]
      exact specClash_in l (by omega) i hi _ ih
theorem FnExactClash : laws_FnExactClash.Pure := by
  intro l hl0
  have mx : maxLen = 9223372036854775807 := by decide
  have hl : l.length ≤ 9223372036854775807 ∧ ∀ s ∈ l, s.size ≤ 9223372036854775807 := by
    rw [← mx]
    exact hl0
  refine Ev.at ?_
  unfold laws_FnExactClash.f
  obtain ⟨t, ht, hl1, _⟩ := szStringS_ev l hl.1 1048576 (by omega) (by omega) hl.2
  refine Ev.bind ht ?_
  by_cases h0 : t < 0
  · exact Ev.pos h0 Ev.pure
  have p := (hl1 (by omega)).2
  have hf : impl_Clash.f l = some (if 2000 < l.length then (⟨#[]⟩, false) else clashGo [] l) := by
    unfold impl_Clash.f
    split
    · rfl
    · rw [if_pos]
      rw [List.all_eq_true]
      intro s hs
      exact decide_eq_true (hl.2 s hs)
  refine Ev.neg h0 (Ev.bind (toStringS_ev l p) (Ev.bind (specClash_ev l p) (Ev.bind (toStringS_ev l p) (Ev.cons hf (Ev.pos rfl (Ev.step ?_))))))
  simp only [laws_FnExactClash.j0]
  exact Ev.neg (by simp) (Ev.bind (toStringS_ev l p) (Ev.bind (eqStringS_ev l p) (Ev.pos rfl Ev.pure)))

end Go.Proofs.Ytobeibhoabakmaa.Pure
