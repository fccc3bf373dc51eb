-- Of the words, what this claim uses: laid by a program of this session.
/- For walks by hand: a row of words put in order by insertion; a map as a set of words; what a loop over it has met. -/
import Derived.Test.YtnahkojlamficaaVMore
import Derived.Maps.OwnOps
import Derived.Maps.OwnSet
import Derived.Maps.RangeWalk
import Derived.Maps.Views
import Derived.Sort.KeysCollected
import Derived.Sort.Walk0
import Derived.StringKeys
import Derived.Carry
import Derived.Lib.Bytealg
namespace Go.Proofs.YtnahkojlamficaaW.PrintWords
open Go.RowKit
def skey (s : ByteArray) : Lit := .string s.data.toList
theorem skey_inj {a b : ByteArray} (h : skey a = skey b) : a = b := by
  unfold skey at h
  injection h with h
  cases a
  cases b
  simpa using h
theorem skey_key (s : ByteArray) : WideAt.IsKeyLit (skey s) := by simp [skey, WideAt.IsKeyLit]
/-- The words that a map's keys are. -/
def keyed (D : DataW Unit) (p : ByteArray → Prop) : Prop := ∀ s, Maps.has D (skey s) = true ↔ p s
theorem keyed_nil : keyed (.map []) (fun _ => False) := by intro s; simp [Maps.has]
theorem keyed_put {D : DataW Unit} {p : ByteArray → Prop} (h : keyed D p) (hm : Maps.IsMap D) (s : ByteArray) (d : DataW Unit) : keyed (D.put (skey s) d) (fun x => p x ∨ x = s) := by
  intro x
  by_cases e : x = s
  · subst e
    rw [Maps.has_put_same hm (skey_key x)]
    simp
  · rw [Maps.has_put_other (fun h => e (skey_inj h)), h x]
    simp [e]
theorem keyed_del {D : DataW Unit} {p : ByteArray → Prop} (h : keyed D p) (s : ByteArray) : keyed (D.del (skey s)) (fun x => p x ∧ x ≠ s) := by
  intro x
  by_cases e : x = s
  · subst e
    rw [Maps.has_del_same]
    simp
  · rw [Maps.has_del_other (fun h => e (skey_inj h)), h x]
    simp [e]
def ltS (a b : ByteArray) : Prop := Op.bytesLess a.toList b.toList = true
theorem ltS_iff {a b : ByteArray} : ltS a b ↔ a.data.toList < b.data.toList := by
  unfold ltS
  rw [bytesLess_eq, Lib.toList_data, Lib.toList_data]
  simp
theorem ltS_irr (a : ByteArray) : ¬ ltS a a := by rw [ltS_iff]; exact List.lt_irrefl _
theorem ltS_trans {a b c : ByteArray} (h : ltS a b) (h2 : ltS b c) : ltS a c := by rw [ltS_iff] at *; exact List.lt_trans h h2
theorem ltS_asym {a b : ByteArray} (h : ltS a b) (h2 : ltS b a) : False := ltS_irr a (ltS_trans h h2)
theorem toList_inj {a b : ByteArray} (h : a.toList = b.toList) : a = b := by
  rw [Lib.toList_data, Lib.toList_data] at h
  cases a
  cases b
  simpa using h
theorem ltS_tri {a b : ByteArray} (h : ¬ ltS a b) (h2 : a ≠ b) : ltS b a := by
  rw [ltS_iff] at *
  rcases List.le_iff_lt_or_eq.1 (List.not_lt.1 h) with h3 | h3
  · exact h3
  · exact absurd (by cases a; cases b; simpa using h3.symm) h2
def asc (l : List ByteArray) : Prop := l.Pairwise ltS
theorem asc_nodup {l : List ByteArray} (h : asc l) : l.Nodup := List.Pairwise.imp (S := fun a b => a ≠ b) (fun {a b} (hab : ltS a b) (e : a = b) => ltS_irr a (by rw [← e] at hab; exact hab)) h
theorem asc_uniq {l r : List ByteArray} (h1 : asc l) (h2 : asc r) (hm : ∀ s, s ∈ l ↔ s ∈ r) : l = r :=
  List.Perm.eq_of_pairwise (le := ltS) (fun _ _ _ _ h h' => (ltS_asym h h').elim) h1 h2 ((List.perm_ext_iff_of_nodup (asc_nodup h1) (asc_nodup h2)).2 hm)
/-- The word at a place. -/
def atS (xs : List ByteArray) (i : Nat) : ByteArray := xs.getD i ByteArray.empty
theorem atS_rd (xs : List ByteArray) (i : Int) : rdOf ByteArray.empty xs i = atS xs i.toNat := rfl
theorem atS_get (xs : List ByteArray) (i : Nat) (h : i < xs.length) : atS xs i = xs[i] := by unfold atS; simp [List.getD_eq_getElem?_getD, List.getElem?_eq_getElem h]
theorem atS_mem {xs : List ByteArray} {s : ByteArray} : s ∈ xs ↔ ∃ i, i < xs.length ∧ atS xs i = s := by
  rw [List.mem_iff_getElem]
  constructor
  · rintro ⟨i, h, e⟩
    exact ⟨i, h, by rw [atS_get xs i h]; exact e⟩
  · rintro ⟨i, h, e⟩
    exact ⟨i, h, by rw [← atS_get xs i h]; exact e⟩
theorem atS_set (xs : List ByteArray) (i c : Nat) (s : ByteArray) (h : c < xs.length) : atS (xs.set i s) c = if i = c then s else atS xs c := by
  unfold atS
  rw [List.getD_eq_getElem?_getD, List.getD_eq_getElem?_getD, List.getElem?_set]
  split
  · rename_i e
    subst e
    simp [h]
  · rfl
/-- A place and the one ahead of it change their words. -/
def swp (xs : List ByteArray) (j : Nat) : List ByteArray := (xs.set (j - 1) (atS xs j)).set j (atS xs (j - 1))
theorem swp_len (xs : List ByteArray) (j : Nat) : (swp xs j).length = xs.length := by simp [swp]
theorem swp_at (xs : List ByteArray) (j c : Nat) (_hj : 0 < j) (h : c < xs.length) : atS (swp xs j) c = if c = j then atS xs (j - 1) else if c = j - 1 then atS xs j else atS xs c := by
  unfold swp
  rw [atS_set _ _ _ _ (by simpa using h), atS_set _ _ _ _ h]
  by_cases h1 : c = j
  · rw [if_pos h1, if_pos h1.symm]
  · rw [if_neg h1, if_neg (show ¬ j = c from fun e => h1 e.symm)]
    by_cases h2 : c = j - 1
    · rw [if_pos h2, if_pos h2.symm]
    · rw [if_neg h2, if_neg (show ¬ j - 1 = c from fun e => h2 e.symm)]
/-- All words are apart. -/
def apartS (xs : List ByteArray) : Prop := ∀ a b, a < b → b < xs.length → atS xs a ≠ atS xs b
theorem apartS_of {xs : List ByteArray} (h : xs.Nodup) : apartS xs := by
  intro a b hab hb e
  rw [atS_get xs a (by omega), atS_get xs b hb] at e
  have := (List.pairwise_iff_getElem.1 h) a b (by omega) hb hab
  exact this e
theorem swp_apart {xs : List ByteArray} {j : Nat} (h : apartS xs) (hj : 0 < j) (hl : j < xs.length) : apartS (swp xs j) := by
  intro a b hab hb
  rw [swp_len] at hb
  rw [swp_at xs j a hj (by omega), swp_at xs j b hj hb]
  repeat' split
  all_goals first | omega | skip
  all_goals intro e
  all_goals first | exact h _ _ (by omega) (by omega) e | exact h _ _ (by omega) (by omega) e.symm
theorem swp_mem {xs : List ByteArray} {j : Nat} (hj : 0 < j) (hl : j < xs.length) (s : ByteArray) : s ∈ swp xs j ↔ s ∈ xs := by
  rw [atS_mem, atS_mem, swp_len]
  constructor
  · rintro ⟨i, h, e⟩
    rw [swp_at xs j i hj h] at e
    split at e
    · exact ⟨_, by omega, e⟩
    · split at e
      · exact ⟨_, hl, e⟩
      · exact ⟨_, h, e⟩
  · rintro ⟨i, h, e⟩
    by_cases h1 : i = j
    · refine ⟨j - 1, by omega, ?_⟩
      rw [swp_at xs j _ hj (by omega), if_neg (by omega), if_pos rfl, ← h1]
      exact e
    · by_cases h2 : i = j - 1
      · refine ⟨j, hl, ?_⟩
        rw [swp_at xs j _ hj hl, if_pos rfl, ← h2]
        exact e
      · refine ⟨i, h, ?_⟩
        rw [swp_at xs j _ hj h, if_neg h1, if_neg h2]
        exact e
/-- The first i + 1 words are in order but for the one at j, which may belong further ahead. -/
def ordS (xs : List ByteArray) (i j : Nat) : Prop := ∀ a b, a < b → b ≤ i → b ≠ j → ltS (atS xs a) (atS xs b)
theorem ordS_step {xs : List ByteArray} {i j : Nat} (h : ordS xs i j) (hj : 0 < j) (hji : j ≤ i) (hi : i < xs.length) (hl : ltS (atS xs j) (atS xs (j - 1))) : ordS (swp xs j) i (j - 1) := by
  intro a b hab hb hne
  rw [swp_at xs j a hj (by omega), swp_at xs j b hj (by omega)]
  by_cases e1 : b = j
  · rw [if_pos e1, if_neg (by omega)]
    by_cases e2 : a = j - 1
    · rw [if_pos e2]
      exact hl
    · rw [if_neg e2]
      exact h _ _ (by omega) (by omega) (by omega)
  · rw [if_neg e1, if_neg hne]
    by_cases e2 : a = j
    · rw [if_pos e2]
      exact h _ _ (by omega) hb e1
    · rw [if_neg e2]
      by_cases e3 : a = j - 1
      · rw [if_pos e3]
        exact h _ _ (by omega) hb e1
      · rw [if_neg e3]
        exact h _ _ hab hb e1
theorem ordS_stop {xs : List ByteArray} {i j : Nat} (h : ordS xs i j) (hji : j ≤ i) (hi : i < xs.length) (ha : apartS xs) (hs : j = 0 ∨ ¬ ltS (atS xs j) (atS xs (j - 1))) : ordS xs i (i + 1) := by
  intro a b hab hb _
  by_cases e : b = j
  · subst e
    rcases hs with hs | hs
    · omega
    · have h1 : ltS (atS xs (b - 1)) (atS xs b) := ltS_tri hs (fun e => ha (b - 1) b (by omega) (by omega) e.symm)
      by_cases e2 : a = b - 1
      · rw [e2]
        exact h1
      · exact ltS_trans (h a (b - 1) (by omega) (by omega) (by omega)) h1
  · exact h a b hab hb e
theorem ordS_next {xs : List ByteArray} {i : Nat} (h : ordS xs i (i + 1)) : ordS xs (i + 1) (i + 1) := by
  intro a b hab hb hne
  exact h a b hab (by omega) hne
theorem ordS_asc {xs : List ByteArray} {i : Nat} (h : ordS xs i i) (hi : xs.length ≤ i) : asc xs := by
  refine List.pairwise_iff_getElem.2 (fun a b ha hb hab => ?_)
  rw [← atS_get xs a ha, ← atS_get xs b hb]
  exact h a b hab (by omega) (by omega)
def mkS (x : List UInt8) : ByteArray := ⟨x.toArray⟩
theorem mkS_key (x : List UInt8) : skey (mkS x) = .string x := by simp [skey, mkS]
theorem mkS_inj {a b : List UInt8} (h : mkS a = mkS b) : a = b := by
  have := congrArg skey h
  rw [mkS_key, mkS_key] at this
  injection this
theorem mkS_data (s : ByteArray) : mkS s.data.toList = s := by cases s; simp [mkS]
theorem collected_mem {D : DataW Unit} {ss : List (List UInt8)} {left : Lit → Bool} {p : ByteArray → Prop} (hc : Collected D left ss) (hl : ∀ kl, left kl = false) (hk : keyed D p) (s : ByteArray) : s ∈ ss.map mkS ↔ p s := by
  rw [← hk s, List.mem_map]
  constructor
  · rintro ⟨x, hx, rfl⟩
    rw [mkS_key]
    exact ((hc.2 x).1 hx).1
  · intro h
    refine ⟨s.data.toList, (hc.2 _).2 ⟨?_, hl _⟩, mkS_data s⟩
    exact h
theorem collected_nodup {D : DataW Unit} {ss : List (List UInt8)} {left : Lit → Bool} (hc : Collected D left ss) : (ss.map mkS).Nodup :=
  List.pairwise_map.2 (hc.1.imp (fun {_ _} hab e => hab (mkS_inj e)))
theorem ownsMap_size {P : Program} {k : TypeId} {R : Value → Option (DataW Unit × List MemPlace)} {w : World} {b n : Nat} {D : DataW Unit} (h : w.ownsMap P k R b n D) : Maps.size D ≤ n := by
  obtain ⟨es, clock, _, _, hs, rfl⟩ := h
  simpa [Maps.size, length_sorted] using hs
theorem plainElem_bool_inv {P : Program} {e : TypeId} (he : P.underlying e = some .bool) (v : Value) (y : DataW Unit × List MemPlace) (h : plainElem P e v = some y) : ∃ c, v = .bool c := by
  unfold plainElem at h
  rw [he] at h
  cases v <;> simp at h
  exact ⟨_, rfl⟩
theorem keyOf_str_inv {P : Program} {k : TypeId} (hk : P.underlying k = some .string) (key : Value) (kl : Lit) (h : keyOf P k key = some kl) : ∃ x, key = Value.string (mkS x) := by
  obtain ⟨x, hx, _⟩ := Maps.keyOf_str hk h
  exact ⟨x, hx⟩
end Go.Proofs.YtnahkojlamficaaW.PrintWords
