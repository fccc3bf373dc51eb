-- Of the words, what this claim uses: laid by a program of this session.
/- A row of bytes of one's own, or one that the conversion of a constant has marked behind its last cell (it is full: the next append makes a new one). -/
import Derived.Test.YtkijlpiiiejjkaaVMore
import Derived.Lib.SlBytesConst
import Derived.ArgAppend
namespace Go.Proofs.YtkijlpiiiejjkaaW.PrintWords.Kd
open Go.RowKit Go.Lib
section
variable {e : Nat} {w w1 W : World} {base base' : Nat} {ok ok' : Nat → Prop} {v : Value} {xs : List Int}
def RM (e : Nat) (w : World) (base : Nat) (ok : Nat → Prop) (v : Value) (xs : List Int) : Prop :=
  (Kd.int .u8).R e w base ok v xs ∨ ∃ g, v = .slice (some ⟨g, 0, none⟩) xs.length xs.length ∧ base ≤ g ∧ ok g ∧ 0 < xs.length ∧ xs.length ≤ 1000 ∧ w.heap[g]? = some (.cells (nums .u8 xs).toArray e (xs.length, xs.length + 1))
theorem RM_of (h : (Kd.int .u8).R e w base ok v xs) : RM e w base ok v xs := Or.inl h
theorem RM_step (h : RM e w base ok v xs) (hm : ∀ k, ok k → k < w.heap.size → w1.heap[k]? = w.heap[k]?) : RM e w1 base ok v xs := by
  rcases h with h | ⟨g, h1, h2, h3, h4, h5, h6⟩
  · exact Or.inl (R_step h hm)
  · exact Or.inr ⟨g, h1, h2, h3, h4, h5, (hm g h3 (blk_lt h6)).trans h6⟩
theorem RM_below (h : RM e w base ok v xs) (hb : Below w.heap.size w w1) : RM e w1 base ok v xs := RM_step h (fun k _ hk => hb.block k hk)
theorem RM_alloc (h : RM e w base ok v xs) (o : Obj) : RM e (w.alloc o) base ok v xs := RM_below h (below_alloc (Below.refl _ _) o)
theorem RM_drew (h : RM e w base ok v xs) : RM e w.drew base ok v xs := RM_below h (below_drew (Below.refl _ _))
theorem RM_drewN (h : RM e w base ok v xs) (m : Nat) : RM e (w.drewN m) base ok v xs := RM_below h (pw_below_drewN (Below.refl _ _) m)
theorem RM_far (h : RM e w base ok v xs) {p : Addr} (hok : ∀ k, ok k → k ≠ p.block) (u : Value) : RM e (w.setCell p u) base ok v xs := RM_step h (fun k ho _ => Below.heap_setCell w p u k (hok k ho))
theorem RM_mono (h : RM e w base ok v xs) (hok : ∀ k, ok k → ok' k) : RM e w base ok' v xs := by
  rcases h with h | ⟨g, h1, h2, h3, h4, h5, h6⟩
  · exact Or.inl (R_mono h hok)
  · exact Or.inr ⟨g, h1, h2, hok g h3, h4, h5, h6⟩
theorem RM_lower (h : RM e w base ok v xs) (hb : base' ≤ base) : RM e w base' ok v xs := by
  rcases h with h | ⟨g, h1, h2, h3, h4, h5, h6⟩
  · exact Or.inl (R_lower h hb)
  · exact Or.inr ⟨g, h1, Nat.le_trans hb h2, h3, h4, h5, h6⟩
theorem RM_types (h : RM e w base ok v xs) {g t : Nat} {cells : Array Value} (hb : w.heap[g]? = some (.cells cells t (0, 0))) (ht : ∀ q, q ∈ e :: (Kd.int .u8).E → q ≠ t) : RM e w base (fun k => ok k ∧ k ≠ g) v xs := by
  rcases h with h | ⟨g', h1, h2, h3, h4, h5, h6⟩
  · exact Or.inl (R_types h hb ht)
  · refine Or.inr ⟨g', h1, h2, ⟨h3, ?_⟩, h4, h5, h6⟩
    rintro rfl
    rw [h6] at hb
    injection hb with hb
    injection hb with _ hb
    exact ht e List.mem_cons_self hb
theorem RM_ne (h : RM e w base ok v xs) {g t : Nat} {cells : Array Value} (hb : w.heap[g]? = some (.cells cells t (0, 0))) (ht : e ≠ t) : some g ≠ v.ownBlock := by
  rcases h with h | ⟨g', rfl, h2, h3, h4, h5, h6⟩
  · exact R_ne h hb ht
  · intro he
    have : g = g' := by simpa [Value.ownBlock] using he
    subst this
    rw [h6] at hb
    injection hb with hb
    injection hb with _ hb
    exact ht hb
theorem RM_lt (h : RM e w base ok v xs) : ∀ k, v.ownBlock = some k → k < w.heap.size := by
  rcases h with h | ⟨g', rfl, h2, h3, h4, h5, h6⟩
  · exact R_lt h
  · intro k hk
    have : g' = k := by simpa [Value.ownBlock] using hk
    subst this
    exact blk_lt h6
theorem RM_elder' {u : Value} (h : RM e W base ok v xs) (hbase : ∀ k, u.ownBlock = some k → W.heap.size ≤ k) (hb : Below W.heap.size W w1) : RM e w1 base (fun k => ok k ∧ some k ≠ u.ownBlock) v xs := by
  rcases h with h | ⟨g', h1, h2, h3, h4, h5, h6⟩
  · exact Or.inl (R_elder' h hbase hb)
  · have hl := blk_lt h6
    exact Or.inr ⟨g', h1, h2, ⟨h3, fun he => by have := hbase g' he.symm; omega⟩, h4, h5, (hb.block g' hl).trans h6⟩
theorem RM_slice (h : RM e w base ok v xs) : ∃ A c, v = .slice A xs.length c := by
  rcases h with h | ⟨g, rfl, _⟩
  · exact R_slice h
  · exact ⟨_, _, rfl⟩
theorem marked_cell {g : Nat} (h6 : w.heap[g]? = some (.cells (nums .u8 xs).toArray e (xs.length, xs.length + 1))) (j : Nat) (hj : j < xs.length) : w.cell? ⟨g, j, none⟩ = some (.int .u8 (xs.getD j 0)) := by
  have e3 : (nums .u8 xs)[j]? = some (.int .u8 (xs.getD j 0)) := by
    unfold nums
    rw [List.getElem?_map, List.getElem?_eq_getElem hj, List.getD_eq_getElem?_getD, List.getElem?_eq_getElem hj]
    rfl
  simp only [World.cell?, h6, List.getElem?_toArray, e3]
  rfl
theorem marked_C {g : Nat} (h5 : xs.length ≤ 1000) (h6 : w.heap[g]? = some (.cells (nums .u8 xs).toArray e (xs.length, xs.length + 1))) : Kd.C (Kd.int .u8) w (some ⟨g, 0, none⟩) xs.length xs := by
  have hr : ReadsInt w .u8 (some ⟨g, 0, none⟩) xs.length xs := ⟨rfl, by omega, fun _ => ⟨_, rfl, fun j hj => by rw [add_plain]; exact marked_cell h6 j hj⟩⟩
  exact Kd.C_of_reads (d := (0 : Int)) (h1 := fun _ => rfl) hr
theorem RM_V (h : RM e w base ok v xs) : Kd.V (Kd.int .u8) e w base' (fun k_ => (base ≤ k_)) v xs := by
  rcases h with h | ⟨g, rfl, h2, h3, h4, h5, h6⟩
  · exact R_V (R_mono (R_bound h) (fun _ hk => hk.2.1))
  · refine ⟨_, _, rfl, Nat.le_refl _, fun W' hW => ?_⟩
    exact marked_C (e := e) h5 ((hW g h2 (blk_lt h6)).trans h6)
theorem RM_bound (h : RM e w base ok v xs) : RM e w base (fun k => ok k ∧ base ≤ k ∧ k < w.heap.size ∧ True) v xs := by
  rcases h with h | ⟨g, h1, h2, h3, h4, h5, h6⟩
  · exact Or.inl (R_mono (R_bound h) (fun _ hk => ⟨hk.1, hk.2.1, hk.2.2.1, trivial⟩))
  · exact Or.inr ⟨g, h1, h2, ⟨h3, h2, blk_lt h6, trivial⟩, h4, h5, h6⟩
theorem RM_reads' {A : Option Addr} {n c : Nat} (h : RM e w base ok (.slice A n c) xs) : n = xs.length ∧ n ≤ c ∧ Kd.C (Kd.int .u8) w A xs.length xs := by
  rcases h with h | ⟨g, h1, h2, h3, h4, h5, h6⟩
  · exact R_reads' h
  · injection h1 with ha hn hc
    subst ha; subst hn; subst hc
    exact ⟨rfl, Nat.le_refl _, marked_C h5 h6⟩
theorem marked_put {g : Nat} (h6 : w.heap[g]? = some (.cells (nums .u8 xs).toArray e (xs.length, xs.length + 1))) (i : Nat) (x : Int) : (w.setCell ⟨g, i, none⟩ (.int .u8 x)).heap[g]? = some (.cells (nums .u8 (xs.set i x)).toArray e (xs.length, xs.length + 1)) := by
  have hl := blk_lt h6
  have e1 : (nums .u8 xs).toArray.setIfInBounds i (.int .u8 x) = (nums .u8 (xs.set i x)).toArray := by
    apply Array.ext'
    simp [nums, List.map_set]
  show (w.heap.modify g _)[g]? = _
  rw [Array.getElem?_modify, if_pos rfl, h6]
  simp only [Option.map_some, Option.isSome_none, Bool.false_eq_true, if_false, e1]
theorem RM_open (h : RM e w base ok v xs) (i : Int) (h0 : 0 ≤ i) (h1 : i < xs.length) : ∃ g c, v = .slice (some ⟨g, 0, none⟩) xs.length c ∧ base ≤ g ∧ ok g ∧ w.cell? ⟨g, i.toNat, none⟩ = some (.int .u8 (rd xs i)) ∧ w.frozen? ⟨g, i.toNat, none⟩ = false ∧
    ∀ x : Int, RM e (w.setCell ⟨g, i.toNat, none⟩ (.int .u8 x)) base ok (.slice (some ⟨g, 0, none⟩) xs.length c) (xs.set i.toNat x) ∧ w.grownBy (w.setCell ⟨g, i.toNat, none⟩ (.int .u8 x)) (some g) := by
  rcases h with h | ⟨g, rfl, h2, h3, h4, h5, h6⟩
  · obtain ⟨g, c, rfl, hb, _, _⟩ := R_form h (by omega)
    obtain ⟨hc, hf⟩ := R_celln 0 h i h0 h1
    refine ⟨g, c, rfl, hb, h.1 g rfl, hc, hf, fun x => ?_⟩
    obtain ⟨p, q⟩ := R_putg h i x
    exact ⟨Or.inl p, q⟩
  · have hil : i.toNat < xs.length := by omega
    refine ⟨g, _, rfl, h2, h3, marked_cell h6 i.toNat hil, ?_, fun x => ⟨Or.inr ⟨g, by rw [List.length_set], h2, h3, by rw [List.length_set]; exact h4, by rw [List.length_set]; exact h5, by rw [List.length_set]; exact marked_put h6 i.toNat x⟩, ?_⟩⟩
    · simp only [World.frozen?, h6]
      simp
      omega
    · exact ⟨rfl, rfl, rfl, by simp [World.setCell], fun k _ hk => Below.heap_setCell w _ _ k (fun he => hk (by rw [he]))⟩
theorem RM_new (w : World) (e : Nat) (xs : List Int) (C : Array Value) (n : Nat) (hC : C = (nums .u8 xs).toArray) (hn : n = xs.length) (h4 : 0 < xs.length) (h5 : xs.length ≤ 1000) : RM e (w.alloc (.cells C e (n, n + 1))) w.heap.size (fun _ => True) (.slice (some ⟨w.heap.size, 0, none⟩) n n) xs := by
  subst hC
  subst hn
  refine Or.inr ⟨w.heap.size, rfl, Nat.le_refl _, trivial, h4, h5, ?_⟩
  show (w.heap.push _)[w.heap.size]? = _
  simp
end
section
variable {P : Program} {ops : Array Oper} {rest : List Oper} {o : Oper} {a : Act} {Q : Exit → Act → World → Prop}
theorem RM_append (_d : Kd Int) {w0 W : World} (base : Nat) (hgd : o.guard = none) (s x : Operand) (t e : TypeId) (z : Value) (bytes : Nat)
    (ho : o.op = .call { callee := .builtin .append, args := #[s, x], argTypes := #[t, t] })
    (ht : P.underlying t = some (.slice e)) (hinfo : (P.info? e).map (fun i => (i.zero, i.size, i.bytes)) = some (some z, (Kd.int .u8).sz, bytes)) (hz : z.cells.size = (Kd.int .u8).sz) (hs0 : 0 < (Kd.int .u8).sz) (hb0 : 0 < bytes)
    (v : Value) (xs : List Int) (p : Int) (cs : List Value) (ok okp : Nat → Prop) (hs : a.eval s = v) (hx : a.eval x = .slice (some ⟨W.heap.size, 0, none⟩) 1 1) (hp : (Kd.int .u8).M W base okp p cs) (hokp : ∀ k, okp k → ok k ∧ some k ≠ v.ownBlock) (hfresh : ∀ k, W.heap.size ≤ k → ok k)
    (HO : RM e W base ok v xs) (HB : Below base w0 W) (hbase : base ≤ W.heap.size) (hl : (xs.length + 1) * bytes ≤ 140737488355328)
    (h : ∀ v1 w1, (Kd.int .u8).R e w1 base ok v1 (xs ++ [p]) → Below base w0 w1 → W.grownBy w1 v.ownBlock → (v1.ownBlock = v.ownBlock ∨ ∃ b, v1.ownBlock = some b ∧ W.heap.size ≤ b) → wpList P ops Q rest (a.put o.dst v1) w1) :
    wpList P ops Q (o :: rest) a (W.alloc (.cells cs.toArray e)) := by
  rcases HO with HO | ⟨g, rfl, h2, h3, h4, h5, h6⟩
  · exact R_append (Kd.int .u8) base hgd s x t e z bytes ho ht hinfo hz hs0 hb0 v xs p cs ok okp hs hx hp hokp hfresh HO HB hbase hl h
  · obtain ⟨i0, hi, hzz⟩ := Option.map_eq_some_iff.1 hinfo
    simp only [Prod.mk.injEq] at hzz
    obtain ⟨hz0, hz1, hz2⟩ := hzz
    have hcs : cs = [.int .u8 p] := hp
    subst hcs
    have hlt := blk_lt h6
    have hold : ∀ k, k < W.heap.size → (W.alloc (.cells [Value.int .u8 p].toArray e)).heap[k]? = W.heap[k]? := fun k hk => by
      show (W.heap.push _)[k]? = _
      rw [Array.getElem?_push, if_neg (by omega)]
    have hnew : (W.alloc (.cells [Value.int .u8 p].toArray e)).heap[W.heap.size]? = some (.cells [Value.int .u8 p].toArray e (0, 0)) := by
      show (W.heap.push _)[W.heap.size]? = _
      simp
    have hsz : (W.alloc (.cells [Value.int .u8 p].toArray e)).heap.size = W.heap.size + 1 := by
      show (W.heap.push _).size = _
      simp
    have h6' := (hold g hlt).trans h6
    obtain ⟨v1, w1, hrun, hown, hg⟩ := run_append_arg_grows (P := P) (W.alloc (.cells [Value.int .u8 p].toArray e)) t o.type e i0 z 1 bytes ht hi hz0 hz1 hz2 hz (by decide) ⟨g, 0, none⟩ xs.length xs.length (nums .u8 xs) (by simp [nums])
      (fun j u hj => by
        have hjl : j < xs.length := by
          have := (List.getElem?_eq_some_iff.1 hj).1
          simpa [nums] using this
        have e3 : (nums .u8 xs)[j]? = some (.int .u8 (xs.getD j 0)) := by
          unfold nums
          rw [List.getElem?_map, List.getElem?_eq_getElem hjl, List.getD_eq_getElem?_getD, List.getElem?_eq_getElem hjl]
          rfl
        rw [e3] at hj
        injection hj with hj
        subst hj
        rw [add_plain]
        exact marked_cell h6' j hjl)
      ⟨W.heap.size, 0, none⟩ 1 1 [.int .u8 p] rfl (fun j u hj => by
        cases j with
        | zero =>
          injection hj with hj
          subst hj
          rw [add_plain]
          simp only [World.cell?, hnew]
          rfl
        | succ j => simp at hj) (by omega) (by simp only [maxLen]; omega) (by simpa using hl)
    have hgw : W.grownBy w1 (Value.slice (some ⟨g, 0, none⟩) xs.length xs.length).ownBlock :=
      ⟨hg.os, hg.tape, hg.output, by have := hg.size; omega, fun k hk _ => (hg.block k (by omega) (by simp)).trans (hold k hk)⟩
    have hb : Below base w0 w1 := HB.trans ⟨hg.os, hg.tape, hg.output, by have := hg.size; omega, fun k hk => (hg.block k (by omega) (by simp)).trans (hold k (by omega))⟩
    have hR : (Kd.int .u8).R e w1 base ok v1 (xs ++ [p]) := by
      refine R_of_own (enc := Value.int .u8) (h1 := fun _ => rfl) (own_weaken (base := (W.alloc (.cells [Value.int .u8 p].toArray e)).heap.size) ?_ (by omega)) (fun k hk => hfresh k ?_)
      · rw [List.length_append]
        have e4 : encs (Value.int .u8) (xs ++ [p]) = nums .u8 xs ++ [.int .u8 p] := by simp [encs, nums]
        rw [e4]
        exact hown
      · have := own_base hown k hk
        omega
    have hat : v1.ownBlock = (Value.slice (some ⟨g, 0, none⟩) xs.length xs.length).ownBlock ∨ ∃ b, v1.ownBlock = some b ∧ W.heap.size ≤ b := by
      rcases hown.2 with ⟨_, h0⟩ | ⟨g2, cap, cur, hv, hb2, _⟩
      · omega
      · exact Or.inr ⟨g2, by rw [hv]; rfl, by omega⟩
    refine wpList_plain hgd fun K hK => ?_
    unfold Oper.wp
    simp [execOp, ho, resolve, invoke, builtin, hs, hx, hrun, Result.andThen]
    exact hK _ _ (h v1 w1 hR hb hgw hat)
end
end Go.Proofs.YtkijlpiiiejjkaaW.PrintWords.Kd
