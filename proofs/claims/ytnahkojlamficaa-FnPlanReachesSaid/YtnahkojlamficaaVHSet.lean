-- Of the words, what this claim uses: laid by a program of this session.
/- For walks by hand: a map[string]bool of the call's own that is a set of words (only true is ever put). -/
import Derived.Test.YtnahkojlamficaaVHSort
import Derived.Maps.OwnOps
import Derived.Carry
namespace Go.Proofs.YtnahkojlamficaaW.PrintWords
open Go.RowKit
def setMap (l : List ByteArray) : DataW Unit := l.foldl (fun D s => D.put (skey s) (.lit (.bool true))) (.map [])
theorem setMap_snoc (l : List ByteArray) (s : ByteArray) : setMap (l ++ [s]) = (setMap l).put (skey s) (.lit (.bool true)) := by simp [setMap, List.foldl_append]
def hasW (l : List ByteArray) (s : ByteArray) : Bool := l.any fun a => decide (a.toList = s.toList)
theorem hasW_iff (l : List ByteArray) (s : ByteArray) : hasW l s = true ↔ s ∈ l := by
  unfold hasW
  rw [List.any_eq_true]
  constructor
  · rintro ⟨a, ha, h⟩
    rw [← toList_inj (of_decide_eq_true h)]
    exact ha
  · intro h
    exact ⟨s, h, decide_eq_true rfl⟩
theorem setMap_fold_at (s : ByteArray) (l : List ByteArray) : ∀ D : DataW Unit, Maps.IsMap D → (l.foldl (fun D s => D.put (skey s) (.lit (.bool true))) D).atKey (skey s) (.lit (.bool false)) = if hasW l s = true then .lit (.bool true) else D.atKey (skey s) (.lit (.bool false)) := by
  induction l with
  | nil => intro D _; simp [hasW]
  | cons a r ih =>
    intro D h
    rw [List.foldl_cons, ih _ (h.put _ _)]
    by_cases h1 : hasW r s = true
    · rw [if_pos h1, if_pos ((hasW_iff _ _).2 (List.mem_cons_of_mem _ ((hasW_iff _ _).1 h1)))]
    · rw [if_neg h1]
      by_cases h2 : s = a
      · subst h2
        rw [Maps.atKey_put_same h (skey_key _), if_pos ((hasW_iff _ _).2 List.mem_cons_self)]
      · rw [Maps.atKey_put_other (fun e => h2 (skey_inj e)), if_neg (fun e => by
          rcases List.mem_cons.1 ((hasW_iff _ _).1 e) with e | e
          · exact h2 e
          · exact h1 ((hasW_iff _ _).2 e))]
theorem setMap_at (l : List ByteArray) (s : ByteArray) : (setMap l).atKey (skey s) (.lit (.bool false)) = .lit (.bool (hasW l s)) := by
  unfold setMap
  rw [setMap_fold_at s l _ Maps.isMap_empty]
  cases hasW l s <;> rfl
/-- The kinds of a map[string]bool. -/
structure SetTy (P : Program) (t k e : TypeId) : Prop where
  ht : P.underlying t = some (.map k e)
  hk : P.underlying k = some .string
  he : P.underlying e = some .bool
  hz : ∀ w : World, (zeroValue e).run P w = .ok (.bool false) w
/-- v is a map of the call's own (no block below b), in which the words S have been put. -/
def MSx (P : Program) (k e : TypeId) (no : Nat → Prop) (w : World) (b : Nat) (v : Value) (S : List ByteArray) : Prop :=
  ∃ g nn, v = .map (some g) ∧ b ≤ g ∧ g < w.heap.size ∧ ¬ no g ∧ w.ownsMap P k (plainElem P e) g nn (setMap S) ∧ nn ≤ S.length
def MS (P : Program) (k e : TypeId) (w : World) (b : Nat) (v : Value) (S : List ByteArray) : Prop := MSx P k e (fun _ => False) w b v S
section
variable {P : Program} {t k e : TypeId} {w w1 : World} {b : Nat} {v : Value} {S : List ByteArray} {no : Nat → Prop}
theorem MS_map (h : MS P k e w b v S) : ∃ g, v = .map (some g) := by
  obtain ⟨g, _, h, _⟩ := h
  exact ⟨g, h⟩
theorem MS_made (w : World) (P : Program) (k e : TypeId) (hb : b ≤ w.heap.size) : MS P k e (w.alloc (.map #[] 0)) b (.map (some w.heap.size)) [] :=
  ⟨w.heap.size, 0, rfl, hb, by have := World.ownsMap_made w P k (plainElem (H := Unit) P e); exact this.lt, id, World.ownsMap_made w P k _, Nat.le_refl _⟩
theorem MS_below (h : MS P k e w b v S) (hb : Below w.heap.size w w1) : MS P k e w1 b v S := by
  obtain ⟨g, nn, h1, h2, h3, hn, ⟨es, clock, ho, hr⟩, h5⟩ := h
  exact ⟨g, nn, h1, h2, Nat.lt_of_lt_of_le h3 hb.size, hn, ⟨es, clock, (hb.block g h3).trans ho, hr⟩, h5⟩
theorem MS_alloc (h : MS P k e w b v S) (o : Obj) : MS P k e (w.alloc o) b v S := MS_below h (below_alloc (Below.refl _ _) o)
theorem MS_drew (h : MS P k e w b v S) : MS P k e w.drew b v S := MS_below h (below_drew (Below.refl _ _))
theorem MS_drewN (h : MS P k e w b v S) (m : Nat) : MS P k e (w.drewN m) b v S := MS_below h (pw_below_drewN (Below.refl _ _) m)
theorem MS_block (h : MS P k e w b v S) {g : Nat} {cs : Array Value} {q : TypeId} {z : Nat × Nat} (hb : w.heap[g]? = some (.cells cs q z)) : v ≠ .map (some g) := by
  obtain ⟨g', nn, rfl, _, _, _, ⟨es, clock, ho, _⟩, _⟩ := h
  intro e
  injection e with e
  injection e with e
  subst e
  rw [ho] at hb
  injection hb with hb
  cases hb
/-- A block of cells is none of the map's. -/
theorem MS_types (h : MS P k e w b v S) {g : Nat} {cs : Array Value} {q : TypeId} {z : Nat × Nat} (hb : w.heap[g]? = some (.cells cs q z)) : MSx P k e (fun x => x = g) w b v S := by
  have hne := MS_block h hb
  obtain ⟨g', nn, rfl, h2⟩ := h
  exact ⟨g', nn, rfl, h2.1, h2.2.1, fun e => hne (by rw [e]), h2.2.2.2⟩
theorem MS_far (p : Addr) (h : MSx P k e (fun x => x = p.block) w b v S) (u : Value) : MSx P k e (fun x => x = p.block) (w.setCell p u) b v S := by
  obtain ⟨g, nn, h1, h2, h3, hn, ⟨es, clock, ho, hr⟩, h5⟩ := h
  have e := Below.heap_setCell w p u g hn
  exact ⟨g, nn, h1, h2, by rw [ho] at e; exact (Array.getElem?_eq_some_iff.1 e).1, hn, ⟨es, clock, e.trans ho, hr⟩, h5⟩
theorem MS_drop (h : MSx P k e no w b v S) : MS P k e w b v S := by
  obtain ⟨g, nn, h1, h2, h3, hn, h4⟩ := h
  exact ⟨g, nn, h1, h2, h3, id, h4⟩
/-- Another row has grown. -/
theorem MS_grown (h : MS P k e w b v S) {row : Option Nat} (hg : w.grownBy w1 row) (hne : ∀ g, v = .map (some g) → some g ≠ row) : MS P k e w1 b v S := by
  obtain ⟨g, nn, h1, h2, h3, hn, ⟨es, clock, ho, hr⟩, h5⟩ := h
  exact ⟨g, nn, h1, h2, Nat.lt_of_lt_of_le h3 hg.size, hn, ⟨es, clock, (hg.block g h3 (hne g h1)).trans ho, hr⟩, h5⟩
theorem MS_own (h : MS P k e w b v S) : v.ownBlock = none := by
  obtain ⟨g, rfl⟩ := MS_map h
  rfl
theorem MS_lt (h : MS P k e w b v S) : ∀ n, v.ownBlock = some n → n < w.heap.size := fun n hn => by rw [MS_own h] at hn; cases hn
theorem MS_base {B : Nat} (h : MS P k e w b v S) : ∀ n, v.ownBlock = some n → B ≤ n := fun n hn => by rw [MS_own h] at hn; cases hn
/-- A row beside the map: a word has been put. -/
theorem R_beside {α : Type} {d : Kd α} {q base : Nat} {ok : Nat → Prop} {u : Value} {xs : List α} (h : Kd.R d q w base (fun k => ok k ∧ some k ≠ v.ownBlock) u xs) (hat : ∃ g, v = .map (some g) ∧ w.grownBy w1 (some g) ∧ ∃ es c, w.heap[g]? = some (Obj.map es c)) : Kd.R d q w1 base (fun k => ok k ∧ some k ≠ v.ownBlock) u xs := by
  obtain ⟨g, _, hg, es, c, hm⟩ := hat
  refine Kd.R_mono (Kd.R_grown (Kd.R_bound h) hg (fun n hn e => ?_)) (fun _ hk => hk.1)
  injection e with e
  obtain ⟨_, _, _, _, _, cells, hc⟩ := hn
  rw [e, hm] at hc
  injection hc with hc
  cases hc
/-- A row beside the map has grown. -/
theorem MS_after {α : Type} {d : Kd α} {q base : Nat} {ok : Nat → Prop} {u : Value} {xs : List α} (h : MS P k e w b v S) (hr : Kd.R d q w base ok u xs) (hg : w.grownBy w1 u.ownBlock) : MS P k e w1 b v S := by
  refine MS_grown h hg (fun g hv e => ?_)
  obtain ⟨cells, hc⟩ := Kd.R_typed hr g e.symm
  exact MS_block h hc hv
theorem MS_size {s : ByteArray} (hk : P.underlying k = some .string) (hs : s.size ≤ maxLen) : keyOf P k (.string s) = some (skey s) := Go.WideMaps.keyOf_string_mk hk hs
end
section
variable {P : Program} {ops : Array Oper} {rest : List Oper} {o : Oper} {a : Act} {Q : Exit → Act → World → Prop}
theorem wpList_lookup_MS {t k e : TypeId} (T : SetTy P t k e) (w : World) {b : Nat} {v : Value} {S : List ByteArray} {s : ByteArray} {c : Bool} (hg : o.guard = none) (m x : Operand) (hop : o.op = Op.lookup t m x false)
    (hm : a.eval m = v) (hx : a.eval x = .string s) (h : MS P k e w b v S) (hs : s.size ≤ maxLen) (hc : some (hasW S s) = some c)
    (hK : wpList P ops Q rest (a.put o.dst (.bool c)) w) : wpList P ops Q (o :: rest) a w := by
  obtain ⟨g, nn, rfl, _, _, _, ho, _⟩ := h
  obtain rfl := Option.some.inj hc
  obtain ⟨u, ps, hrun, hv⟩ := ho.lookup (Go.Maps.string_keyed T.hk) T.ht (T.hz w) (plainElem_bool T.he false) (MS_size T.hk hs)
  rw [setMap_at] at hv
  obtain ⟨c', rfl⟩ := plainElem_bool_inv T.he u _ hv
  rw [plainElem_bool T.he] at hv
  have e : c' = hasW S s := congrArg (fun x : DataW Unit => match x with | .lit (.bool c) => c | _ => false) (congrArg Prod.fst (Option.some.inj hv))
  subst e
  refine wpList_plain hg fun K' hK' => ?_
  unfold Oper.wp
  simp [execOp, hop, hm, hx, hrun, Result.andThen]
  exact hK' _ _ hK
theorem wpList_makeMap_MS {w0 : World} (w : World) {b : Nat} (k e : TypeId) (hg : o.guard = none) (t : TypeId) (hop : o.op = Op.makeMap t none) (hB : Below b w0 w) (hb : b ≤ w.heap.size)
    (hK : ∀ v w1, MS P k e w1 b v [] → Below b w0 w1 → Below w.heap.size w w1 → wpList P ops Q rest (a.put o.dst v) w1) : wpList P ops Q (o :: rest) a w := by
  refine wpList_plain hg fun K' hK' => ?_
  unfold Oper.wp
  simp [execOp, hop, run_makeMap, Result.andThen]
  exact hK' _ _ (hK _ _ (MS_made w P k e hb) (hB.alloc hb _) ((Below.refl _ _).alloc (Nat.le_refl _) _))
theorem wpList_mapUpdate_MS {t k e : TypeId} (T : SetTy P t k e) {w0 : World} (w : World) {b : Nat} {v : Value} {S : List ByteArray} {s : ByteArray} (hg : o.guard = none) (m x c : Operand) (hop : o.op = Op.mapUpdate t m x c)
    (hm : a.eval m = v) (hx : a.eval x = .string s) (hc : a.eval c = .bool true) (h : MS P k e w b v S) (hs : s.size ≤ maxLen) (hB : Below b w0 w) (hl : S.length < 8796093022208)
    (hK : ∀ w1, MS P k e w1 b v (S ++ [s]) → Below b w0 w1 → (∀ (g : Nat) (cs : Array Value) (q : TypeId), w.heap[g]? = some (Obj.cells cs q (0, 0)) → w1.heap[g]? = some (Obj.cells cs q (0, 0))) → (∃ g, v = .map (some g) ∧ w.grownBy w1 (some g) ∧ ∃ es c, w.heap[g]? = some (Obj.map es c)) → wpList P ops Q rest (a.put o.dst undef) w1) : wpList P ops Q (o :: rest) a w := by
  have hbl := fun (g : Nat) (cs : Array Value) (q : TypeId) (e : w.heap[g]? = some (Obj.cells cs q (0, 0))) => MS_block h e
  obtain ⟨g, nn, rfl, hb, hlt, _, ho, hn⟩ := h
  refine wpList_mapUpdate_own w hg m x c t hop k e (Go.Maps.string_keyed T.hk) T.ht _ g nn (setMap S) hm ho (by unfold maxLen; omega) (.string s) (.bool true) (skey s) hx hc (MS_size T.hk hs) (.lit (.bool true)) [] (plainElem_bool T.he true) ?_
  intro w1 ho1 hg1
  refine hK w1 ⟨g, nn + 1, rfl, hb, ho1.lt, id, by rw [setMap_snoc]; exact ho1, by simpa using hn⟩ (hB.grown hg1 (Nat.le_of_lt (Nat.lt_of_le_of_lt hb hlt)) (fun j hj => by cases hj; exact hb)) ?_ ⟨g, rfl, hg1, by obtain ⟨es, c, e, _⟩ := ho; exact ⟨es, c, e⟩⟩
  intro g' cs q hb'
  exact (hg1.block g' (Array.getElem?_eq_some_iff.1 hb').1 (fun e => hbl g' cs q hb' (by injection e with e; rw [e]))).trans hb'
end
end Go.Proofs.YtnahkojlamficaaW.PrintWords
