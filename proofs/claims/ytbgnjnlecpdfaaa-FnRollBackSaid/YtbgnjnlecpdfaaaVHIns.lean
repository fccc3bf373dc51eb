-- Of the words, what this claim uses: laid by a program of this session.
/- A row put together of another one's elements and a fresh one, told by its cells: it is apart as that one is. -/
import Derived.Test.YtbgnjnlecpdfaaaVHWalk
import Derived.Test.YtbgnjnlecpdfaaaVMore
namespace Go.Proofs.YtbgnjnlecpdfaaaW.PrintWords.Kd
open Go.RowKit
section
variable {α : Type} {d : Kd α} {e base base' : Nat} {w w1 W : World} {ok ok' okv : Nat → Prop} {u v v1 : Value} {xs : List α} {r0 : List (List Value)}
theorem own_same {size n b b' : Nat} {cs cs' : List Value} (h : w.ownsRow b e size v n cs) (h' : w.ownsRow b' e size v n cs') : cs = cs' := by
  obtain ⟨l1, h1⟩ := h
  obtain ⟨l2, h2⟩ := h'
  rcases h1 with ⟨rfl, rfl⟩ | ⟨g, cap, cur, rfl, _, hh, _, _, _, ht⟩
  · rw [List.eq_nil_of_length_eq_zero (l1.trans (Nat.zero_mul _)), List.eq_nil_of_length_eq_zero (l2.trans (Nat.zero_mul _))]
  · rcases h2 with ⟨e2, _⟩ | ⟨g', cap', cur', e2, _, hh', _, _, _, ht'⟩
    · cases e2
    · injection e2 with ea _ _
      injection ea with ea
      injection ea with ea _ _
      subst ea
      rw [hh] at hh'
      injection hh' with hh'
      injection hh' with hc _ _
      rw [← ht, ← ht', hc]
def NS (d : Kd α) (e : Nat) (w : World) (base : Nat) (ok : Nat → Prop) (v : Value) (xs : List α) (r0 : List (List Value)) : Prop := Kd.S d e w base ok v xs ∧ N (raw d.sz) e w base ok v r0
theorem NS_elder' (h : NS d e W base ok v xs r0) (hbase : ∀ k, u.ownBlock = some k → W.heap.size ≤ k) (hb : Below W.heap.size W w1) : NS d e w1 base (fun k => ok k ∧ some k ≠ u.ownBlock) v xs r0 := ⟨S_elder' h.1 hbase hb, N_elder' h.2 hbase hb⟩
theorem NS_afterv (h : NS d e W base (fun k => ok k ∧ some k ≠ v.ownBlock) u xs r0) (hg : W.grownBy w1 v.ownBlock) (hat : v1.ownBlock = v.ownBlock ∨ ∃ b, v1.ownBlock = some b ∧ W.heap.size ≤ b) : NS d e w1 base (fun k => ok k ∧ some k ≠ v1.ownBlock) u xs r0 := ⟨S_after h.1 hg hat, N_afterv h.2 hg hat⟩
theorem NS_alloc (h : NS d e w base ok v xs r0) (o : Obj) : NS d e (w.alloc o) base ok v xs r0 := ⟨S_alloc h.1 o, N_alloc h.2 o⟩
theorem NS_drew (h : NS d e w base ok v xs r0) : NS d e w.drew base ok v xs r0 := ⟨S_drew h.1, N_drew h.2⟩
theorem NS_drewN (h : NS d e w base ok v xs r0) (m : Nat) : NS d e (w.drewN m) base ok v xs r0 := ⟨S_drewN h.1 m, N_drewN h.2 m⟩
theorem NS_mono (h : NS d e w base ok v xs r0) (hok : ∀ k, ok k → ok' k) : NS d e w base ok' v xs r0 := ⟨S_mono h.1 hok, N_mono h.2 hok⟩
theorem NS_lt (h : NS d e w base ok v xs r0) : ∀ k, v.ownBlock = some k → k < w.heap.size := S_lt h.1
theorem NS_of (h : Kd.S d e w base ok v xs) : ∃ r0, r0.length = xs.length ∧ NS d e w base ok v xs r0 := by
  obtain ⟨h0, inner, ho, hr⟩ := S_R h
  refine ⟨chunks d.sz xs.length inner, chunks_length _ _ _, h, R_N (d := raw d.sz) ⟨h0, inner, by rw [chunks_length]; exact ho, reps_raw hr (fun x c hp => ⟨d.K_len (d.K_of_M hp), d.K_one (d.K_of_M hp)⟩)⟩⟩
theorem FK_self {sz : Nat} {c : List Value} (hl : c.length = sz) (ho : ∀ u ∈ c, u.oneCell' = true) : FK (raw sz) W ok c c := fun _ _ => ⟨rfl, hl, ho⟩
theorem raw_cells {sz : Nat} (h : N (raw sz) e w base ok v r0) : ∃ inner, w.ownsRow base e sz v r0.length inner ∧ inner.length = r0.length * sz ∧ ∀ j c, r0[j]? = some c → (inner.drop (j * sz)).take sz = c := by
  obtain ⟨_, rows, hl, ⟨_, inner, ho, hr⟩, hf⟩ := h
  have he : rows = r0 := by
    refine List.ext_getElem? fun j => ?_
    by_cases hj : j < r0.length
    · rw [List.getElem?_eq_getElem hj, List.getElem?_eq_getElem (by omega)]
      have := (FK_now (hf j _ _ (List.getElem?_eq_getElem hj) (List.getElem?_eq_getElem (by omega)))).1
      rw [this]
    · rw [List.getElem?_eq_none (by omega), List.getElem?_eq_none (by omega)]
  subst he
  exact ⟨inner, ho, hr.1, fun j c hj => (hr.2 j c hj).1⟩
theorem S_insert (h : NS d e w base ok u xs r0) (hl : r0.length = xs.length) (i : Nat) (hi : i ≤ xs.length) (z : α) (c : List Value) (hz : d.M w base' (fun _ => False) z c)
    (hN : N (raw d.sz) e w base' okv v ((r0.take i ++ [c]) ++ r0.drop i)) (ht : ∀ q, q ∈ d.E → q ≠ e) (hb : base' ≤ base) : Kd.S d e w base' (fun _ => True) v (xs.take i ++ z :: xs.drop i) := by
  obtain ⟨f, h0, inner, ho, hr⟩ := h.1
  obtain ⟨inner0, ho0, hl0, hc0⟩ := raw_cells h.2
  obtain ⟨inner2, ho2, hl2, hc2⟩ := raw_cells hN
  rw [List.length_zipIdx, ← hl] at ho
  have hin := own_same ho ho0
  subst hin
  have hlen : ((r0.take i ++ [c]) ++ r0.drop i).length = (xs.take i ++ z :: xs.drop i).length := by
    simp only [List.length_append, List.length_take, List.length_drop, List.length_cons, List.length_nil, hl]
    omega
  have hty := fun k hk => own_typed ho2 k hk
  have old : ∀ (j : Nat) (x : α) (r : List Value), xs[j]? = some x → r0[j]? = some r → d.M w base' (fun k => some k ≠ v.ownBlock ∧ f k = j) x r := by
    intro j x r hx hrj
    have h1 := hr.2 j (x, j) (zip_at hx)
    have h2 := hc0 j r hrj
    have h3 : d.M w base (fun k => (ok k ∧ some k ≠ u.ownBlock) ∧ f k = j) x ((inner.drop (j * d.sz)).take d.sz) := h1
    rw [h2] at h3
    refine d.M_lower hb (d.M_mono (fun k hk => ⟨fun e1 => ?_, hk.1.2⟩) (d.M_bound h3))
    obtain ⟨_, _, _, q, hq, cells, hcl⟩ := hk
    obtain ⟨cells', hcl'⟩ := hty k e1.symm
    rw [hcl] at hcl'
    injection hcl' with hcl'
    injection hcl' with _ hqe _
    exact ht q hq hqe
  refine ⟨fun k => if f k < i then f k else f k + 1, fun _ _ => trivial, inner2, ?_, ?_⟩
  · rw [List.length_zipIdx, ← hlen]
    exact ho2
  · refine ⟨by rw [List.length_zipIdx, ← hlen]; exact hl2, fun j p hp => ?_⟩
    rw [List.getElem?_zipIdx] at hp
    have hj : j < (xs.take i ++ z :: xs.drop i).length := Classical.byContradiction fun hn => by
      rw [List.getElem?_eq_none (by omega)] at hp
      cases hp
    have hjl : j < xs.length + 1 := by
      simp only [List.length_append, List.length_take, List.length_drop, List.length_cons] at hj
      omega
    have cell : ∀ r, ((r0.take i ++ [c]) ++ r0.drop i)[j]? = some r → (inner2.drop (j * d.sz)).take d.sz = r := fun r h => hc2 j r h
    show d.M w base' (fun k => (True ∧ some k ≠ v.ownBlock) ∧ (if f k < i then f k else f k + 1) = p.2) p.1 ((inner2.drop (j * d.sz)).take d.sz)
    rcases Nat.lt_trichotomy j i with c1 | c1 | c1
    · have e1 : (xs.take i ++ z :: xs.drop i)[j]? = some (xs[j]'(by omega)) := by
        rw [List.getElem?_append_left (by rw [List.length_take]; omega), List.getElem?_take_of_lt c1]
        exact List.getElem?_eq_getElem _
      have e2 : ((r0.take i ++ [c]) ++ r0.drop i)[j]? = some (r0[j]'(by omega)) := by
        rw [List.getElem?_append_left (by rw [List.length_append, List.length_take, List.length_singleton]; omega), List.getElem?_append_left (by rw [List.length_take]; omega), List.getElem?_take_of_lt c1]
        exact List.getElem?_eq_getElem _
      rw [e1] at hp
      rw [cell _ e2]
      simp only [Option.map_some, Option.some.injEq, Nat.zero_add] at hp
      subst hp
      exact d.M_mono (fun k hk => ⟨⟨trivial, hk.1⟩, by rw [hk.2, if_pos c1]⟩) (old j _ _ (List.getElem?_eq_getElem (by omega)) (List.getElem?_eq_getElem (by omega)))
    · subst c1
      have e1 : (xs.take j ++ z :: xs.drop j)[j]? = some z := by
        rw [List.getElem?_append_right (by rw [List.length_take]; omega), List.length_take, Nat.min_eq_left hi, Nat.sub_self]
        rfl
      have e2 : ((r0.take j ++ [c]) ++ r0.drop j)[j]? = some c := by
        rw [List.getElem?_append_left (by rw [List.length_append, List.length_take, List.length_singleton]; omega), List.getElem?_append_right (by rw [List.length_take]; omega), List.length_take, Nat.min_eq_left (by omega), Nat.sub_self]
        rfl
      rw [e1] at hp
      rw [cell _ e2]
      simp only [Option.map_some, Option.some.injEq, Nat.zero_add] at hp
      subst hp
      exact d.M_mono (fun k hk => hk.elim) hz
    · have e1 : (xs.take i ++ z :: xs.drop i)[j]? = some (xs[j - 1]'(by omega)) := by
        rw [List.getElem?_append_right (by rw [List.length_take]; omega), List.length_take, Nat.min_eq_left hi]
        obtain ⟨m, hm⟩ : ∃ m, j - i = m + 1 := ⟨j - i - 1, by omega⟩
        rw [hm, List.getElem?_cons_succ, List.getElem?_drop, show i + m = j - 1 by omega]
        exact List.getElem?_eq_getElem _
      have e2 : ((r0.take i ++ [c]) ++ r0.drop i)[j]? = some (r0[j - 1]'(by omega)) := by
        rw [List.getElem?_append_right (by rw [List.length_append, List.length_take, List.length_singleton]; omega), List.length_append, List.length_take, List.length_singleton, Nat.min_eq_left (by omega), List.getElem?_drop, show i + (j - (i + 1)) = j - 1 by omega]
        exact List.getElem?_eq_getElem _
      rw [e1] at hp
      rw [cell _ e2]
      simp only [Option.map_some, Option.some.injEq, Nat.zero_add] at hp
      subst hp
      exact d.M_mono (fun k hk => ⟨⟨trivial, hk.1⟩, by rw [hk.2, if_neg (by omega)]; show j - 1 + 1 = j; omega⟩) (old (j - 1) _ _ (List.getElem?_eq_getElem (by omega)) (List.getElem?_eq_getElem (by omega)))
end
end Go.Proofs.YtbgnjnlecpdfaaaW.PrintWords.Kd
