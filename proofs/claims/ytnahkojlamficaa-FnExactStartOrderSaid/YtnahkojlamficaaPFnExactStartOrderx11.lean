-- Laid by a program of this session: a turned copy of the kit's print, with contracts by hand beside.
import Derived.Test.YtnahkojlamficaaPFnExactStartOrderx0
import Derived.Test.YtnahkojlamficaaPFnExactStartOrderx1
import Derived.Test.YtnahkojlamficaaPFnExactStartOrderx2
import Derived.Test.YtnahkojlamficaaPFnExactStartOrderx3
import Derived.Test.YtnahkojlamficaaPFnExactStartOrderx7
import Derived.Test.YtnahkojlamficaaPFnExactStartOrderx9
import Derived.Test.YtnahkojlamficaaPFnExactStartOrderx10
namespace Go.Proofs.Ytnahkojlamficaa.PFnExactStartOrder
open Go.RowKit Go.Proofs.YtnahkojlamficaaW.PrintWords Go.Proofs.YtnahkojlamficaaW.PrintLast Go.Proofs.YtnahkojlamficaaW.PrintMore
attribute [local go_sem] max2_int min2_int max_two min_two max_three min_three max_four min_four   -- for this text's walks alone
set_option linter.unusedVariables false
set_option linter.unusedSimpArgs false

/-! ### impl_startOrder: function 64 -/
theorem setTy_impl_startOrder : SetTy Try.prog 74 9 4 := ⟨Try.underlying74, Try.underlying9, Try.underlying4, fun w => by kernel_rfl⟩
def szAll (l : List ByteArray) : Bool := l.all fun s => decide (s.size ≤ 9223372036854775807)
theorem sz_rowS {l : List ByteArray} (h : szAll l = true) (x : Int) : (rdOf ByteArray.empty l x).size ≤ maxLen := by
  unfold rdOf
  rw [List.getD_eq_getElem?_getD]
  by_cases c : x.toNat < l.length
  · rw [List.getElem?_eq_getElem c]
    have := List.all_eq_true.mp h _ (List.getElem_mem c)
    simpa [maxLen] using this
  · rw [List.getElem?_eq_none (by omega)]
    exact Nat.zero_le _
theorem sz_nameS {l : List S55} (h : (l.all fun e => decide (e.f0.size ≤ 9223372036854775807)) = true) (x : Int) : (rd_T55 l x).f0.size ≤ maxLen := by
  unfold rd_T55
  rw [List.getD_eq_getElem?_getD]
  by_cases c : x.toNat < l.length
  · rw [List.getElem?_eq_getElem c]
    have := List.all_eq_true.mp h _ (List.getElem_mem c)
    simpa [maxLen] using this
  · rw [List.getElem?_eq_none (by omega)]
    exact Nat.zero_le _
mutual
def impl_startOrder.l0 : Nat → List (S55) → List ByteArray → List ByteArray → Bool → Option (List ByteArray)
  | 0, _, _, _, _ => none
  | k + 1, x0, x3, x4, x5 => if x5 = true then (impl_startOrder.l1 k x0 x3 x4 false x0 (x0.length : Int) 0) else (some x3)
def impl_startOrder.l1 : Nat → List (S55) → List ByteArray → List ByteArray → Bool → List (S55) → Int → Int → Option (List ByteArray)
  | 0, _, _, _, _, _, _, _ => none
  | k + 1, x0, x3, x4, x5, x14, x15, x16 => if x16 < x15 then (if 0 ≤ x16 then (if x16 < (x14.length : Int) then ((some (hasW x4 ((rd_T55 x14 x16).f0))).bind fun t232 => (if t232 = true then (impl_startOrder.l1 k x0 x3 x4 x5 x14 x15 (wrap64 (x16 + 1))) else ((impl_waits.f k x0 ((rd_T55 x14 x16).f0) ((rd_T55 x14 x16).f1) ((rd_T55 x14 x16).f2) ((rd_T55 x14 x16).f3) ((rd_T55 x14 x16).f4)).bind fun t233 => (if szAll t233 = true then (impl_startOrder.l2 k x0 x3 x4 x5 true x14 x15 x16 t233 (t233.length : Int) 0 ((rd_T55 x14 x16).f0) ((rd_T55 x14 x16).f1) ((rd_T55 x14 x16).f2) ((rd_T55 x14 x16).f3) ((rd_T55 x14 x16).f4)) else none)))) else (none)) else (none)) else (impl_startOrder.l0 k x0 x3 x4 x5)
def impl_startOrder.l2 : Nat → List (S55) → List ByteArray → List ByteArray → Bool → Bool → List (S55) → Int → Int → List ByteArray → Int → Int → ByteArray → List ByteArray → List ByteArray → ByteArray → Bool → Option (List ByteArray)
  | 0, _, _, _, _, _, _, _, _, _, _, _, _, _, _, _, _ => none
  | k + 1, x0, x3, x4, x5, x8, x14, x15, x16, x26, x27, x28, x232000, x232001, x232002, x232003, x232004 => if x28 < x27 then (if 0 ≤ x28 then (if x28 < (x26.length : Int) then (if x8 = true then ((some (hasW x4 (rdOf ByteArray.empty x26 x28))).bind fun t237 => (impl_startOrder.l2 k x0 x3 x4 x5 t237 x14 x15 x16 x26 x27 (wrap64 (x28 + 1)) x232000 x232001 x232002 x232003 x232004)) else (impl_startOrder.l2 k x0 x3 x4 x5 false x14 x15 x16 x26 x27 (wrap64 (x28 + 1)) x232000 x232001 x232002 x232003 x232004)) else (none)) else (none)) else (if x8 = true then (if x4.length < 8796093022208 then (if x3.length < 8796093022208 then (impl_startOrder.l0 k x0 (x3 ++ [x232000]) (x4 ++ [x232000]) true) else (none)) else (none)) else (impl_startOrder.l1 k x0 x3 x4 x5 x14 x15 (wrap64 (x16 + 1))))
end
def impl_startOrder.f (k : Nat) (l0 : List (S55)) : Option (List ByteArray) := if (l0.all fun e => decide (e.f0.size ≤ 9223372036854775807)) = true then (impl_startOrder.l0 k l0 (([] : List ByteArray)) (([] : List ByteArray)) true) else none
theorem impl_startOrder.mono_l : ∀ k, (∀ y0 y1 y2 y3, LeO (impl_startOrder.l0 k y0 y1 y2 y3) (impl_startOrder.l0 (k + 1) y0 y1 y2 y3)) ∧ (∀ y0 y1 y2 y3 y4 y5 y6, LeO (impl_startOrder.l1 k y0 y1 y2 y3 y4 y5 y6) (impl_startOrder.l1 (k + 1) y0 y1 y2 y3 y4 y5 y6)) ∧ (∀ y0 y1 y2 y3 y4 y5 y6 y7 y8 y9 y10 y11 y12 y13 y14 y15, LeO (impl_startOrder.l2 k y0 y1 y2 y3 y4 y5 y6 y7 y8 y9 y10 y11 y12 y13 y14 y15) (impl_startOrder.l2 (k + 1) y0 y1 y2 y3 y4 y5 y6 y7 y8 y9 y10 y11 y12 y13 y14 y15))
  | 0 => ⟨fun _ _ _ _ r h => by simp [impl_startOrder.l0] at h, fun _ _ _ _ _ _ _ r h => by simp [impl_startOrder.l1] at h, fun _ _ _ _ _ _ _ _ _ _ _ _ _ _ _ _ r h => by simp [impl_startOrder.l2] at h⟩
  | k + 1 => by
    obtain ⟨ih0, ih1, ih2⟩ := impl_startOrder.mono_l k
    refine ⟨?_, ?_, ?_⟩
    · intro y0 y1 y2 y3
      unfold impl_startOrder.l0
      repeat' first
      | (with_reducible exact ih0 _ _ _ _)
      | (with_reducible exact ih1 _ _ _ _ _ _ _)
      | (with_reducible exact ih2 _ _ _ _ _ _ _ _ _ _ _ _ _ _ _ _)
      | (with_reducible exact impl_waits.mono _ _ _ _ _ _ _)
      | (with_reducible exact LeO.refl _)
      | (with_reducible exact LeO.none _)
      | (with_reducible refine LeO.ite ?_ ?_)
      | (with_reducible refine LeO.bind ?_ (fun _ => ?_))
      | exact ih0 _ _ _ _
      | exact ih1 _ _ _ _ _ _ _
      | exact ih2 _ _ _ _ _ _ _ _ _ _ _ _ _ _ _ _
      | exact impl_waits.mono _ _ _ _ _ _ _
      | exact LeO.none _
      | refine LeO.ite ?_ ?_
      | refine LeO.bind ?_ (fun _ => ?_)
    · intro y0 y1 y2 y3 y4 y5 y6
      unfold impl_startOrder.l1
      repeat' first
      | (with_reducible exact ih0 _ _ _ _)
      | (with_reducible exact ih1 _ _ _ _ _ _ _)
      | (with_reducible exact ih2 _ _ _ _ _ _ _ _ _ _ _ _ _ _ _ _)
      | (with_reducible exact impl_waits.mono _ _ _ _ _ _ _)
      | (with_reducible exact LeO.refl _)
      | (with_reducible exact LeO.none _)
      | (with_reducible refine LeO.ite ?_ ?_)
      | (with_reducible refine LeO.bind ?_ (fun _ => ?_))
      | exact ih0 _ _ _ _
      | exact ih1 _ _ _ _ _ _ _
      | exact ih2 _ _ _ _ _ _ _ _ _ _ _ _ _ _ _ _
      | exact impl_waits.mono _ _ _ _ _ _ _
      | exact LeO.none _
      | refine LeO.ite ?_ ?_
      | refine LeO.bind ?_ (fun _ => ?_)
    · intro y0 y1 y2 y3 y4 y5 y6 y7 y8 y9 y10 y11 y12 y13 y14 y15
      unfold impl_startOrder.l2
      repeat' first
      | (with_reducible exact ih0 _ _ _ _)
      | (with_reducible exact ih1 _ _ _ _ _ _ _)
      | (with_reducible exact ih2 _ _ _ _ _ _ _ _ _ _ _ _ _ _ _ _)
      | (with_reducible exact impl_waits.mono _ _ _ _ _ _ _)
      | (with_reducible exact LeO.refl _)
      | (with_reducible exact LeO.none _)
      | (with_reducible refine LeO.ite ?_ ?_)
      | (with_reducible refine LeO.bind ?_ (fun _ => ?_))
      | exact ih0 _ _ _ _
      | exact ih1 _ _ _ _ _ _ _
      | exact ih2 _ _ _ _ _ _ _ _ _ _ _ _ _ _ _ _
      | exact impl_waits.mono _ _ _ _ _ _ _
      | exact LeO.none _
      | refine LeO.ite ?_ ?_
      | refine LeO.bind ?_ (fun _ => ?_)
theorem impl_startOrder.mono : ∀ a0 k, LeO (impl_startOrder.f k a0) (impl_startOrder.f (k + 1) a0) := by
  intro a0 k
  obtain ⟨ih0, ih1, ih2⟩ := impl_startOrder.mono_l k
  unfold impl_startOrder.f
  repeat' first
      | (with_reducible exact ih0 _ _ _ _)
      | (with_reducible exact ih1 _ _ _ _ _ _ _)
      | (with_reducible exact ih2 _ _ _ _ _ _ _ _ _ _ _ _ _ _ _ _)
      | (with_reducible exact impl_waits.mono _ _ _ _ _ _ _)
      | (with_reducible exact LeO.refl _)
      | (with_reducible exact LeO.none _)
      | (with_reducible refine LeO.ite ?_ ?_)
      | (with_reducible refine LeO.bind ?_ (fun _ => ?_))
      | exact ih0 _ _ _ _
      | exact ih1 _ _ _ _ _ _ _
      | exact ih2 _ _ _ _ _ _ _ _ _ _ _ _ _ _ _ _
      | exact impl_waits.mono _ _ _ _ _ _ _
      | exact LeO.none _
      | refine LeO.ite ?_ ?_
      | refine LeO.bind ?_ (fun _ => ?_)
set_option maxHeartbeats 8000000 in
set_option maxRecDepth 100000 in
theorem impl_startOrder.calls (k : Nat) (A0 : Option Addr) (c0 : Nat) (l0 : List (S55)) (r : List ByteArray) (w : World) (hr0 : Kd.C k55 w A0 l0.length l0) (hc0 : l0.length ≤ c0) (h : impl_startOrder.f k l0 = some r) :
    Calls Try.prog 64 #[.slice A0 l0.length c0] w fun e w' => ∃ v0_ : Value, e = .returned (v0_) ∧ Kd.R Kd.string 9 w' w.heap.size (fun _ => True) v0_ r ∧ Below w.heap.size w w' := by
  have hu55 := Try.underlying55
  have HR0 := Aside0.mk hr0
  have HC0 := Aside0.mk hc0
  clear hr0 hc0
  have HB := Aside0.mk (Below.refl w.heap.size w)
  unfold impl_startOrder.f at h
  by_cases hg0 : (l0.all fun e => decide (e.f0.size ≤ 9223372036854775807)) = true
  rotate_left
  · rw [if_neg hg0] at h
    exact absurd h (by simp)
  rw [if_pos hg0] at h
  have HZ0 := Aside0.mk hg0
  clear hg0
  have H : (impl_startOrder.l0 k l0 (([] : List ByteArray)) (([] : List ByteArray)) true) = some r := h
  clear h
  obtain ⟨y224, hy224⟩ : ∃ y_ : List ByteArray, y_ = (([] : List ByteArray)) := ⟨_, rfl⟩
  replace H : (impl_startOrder.l0 k l0 y224 (([] : List ByteArray)) true) = some r := by first | (rw [hy224]; with_reducible exact H) | (have H2_ := (Option.bind_some _ _).symm.trans H; rw [hy224]; with_reducible exact H2_) | (have H2_ := (Option.bind_some _ _).symm.trans H; with_reducible exact H2_) | with_reducible exact H | (rw [hy224]; exact H) | exact H
  have Ny224 := Aside0.mk hy224
  clear hy224
  obtain ⟨y227, hy227⟩ : ∃ y_ : List ByteArray, y_ = (([] : List ByteArray)) := ⟨_, rfl⟩
  replace H : (impl_startOrder.l0 k l0 y224 y227 true) = some r := by first | (rw [hy227]; with_reducible exact H) | (have H2_ := (Option.bind_some _ _).symm.trans H; rw [hy227]; with_reducible exact H2_) | (have H2_ := (Option.bind_some _ _).symm.trans H; with_reducible exact H2_) | with_reducible exact H | (rw [hy227]; exact H) | exact H
  have Ny227 := Aside0.mk hy227
  clear hy227
  have H' := Aside0.mk H
  clear H
  go_enter Try.func64, Try.ntmps64
  go_wp2_with (first | ((with_reducible refine gate_dst (N := 11) rfl ?_); refine Kd.R_lit Kd.string _ 9 ?hg (N := 11) ?hd (xs := ([] : List ByteArray)) (inner := []) (ok := fun _ => True) (okp := fun _ => True) ?hr ?hp (fun _ hk => hk) trivial (Below.refl _ _) (Nat.le_refl _) (by simp) ?_; (case hd => rfl); (case hg => rfl); (case hr => first | (go_simp; done) | (go_simp; rfl)); (case hp => exact (Reps.none _ _)); intro v225 w2 ho3 hb hg_ hnew_; clear hg_ hnew_; (first | rw [← Ny224.out] at ho3 | (simp only [Int.reduceToNat] at ho3; rw [← Ny224.out] at ho3)); have n0_ := Aside0.mk (Kd.R_lower ho3 (below_size (by repeat (first | (with_reducible first | exact HB.out | apply below_alloc | apply pw_below_drewN | apply below_drew1) | exact HB.out)))); have n1_ := Aside0.mk (below_step (by repeat (first | (with_reducible first | exact HB.out | apply below_alloc | apply pw_below_drewN | apply below_drew1) | exact HB.out)) hb); clear HB; have HO226 := n0_; have HB := n1_; clear n0_ n1_; clear hb ho3) | ((with_reducible refine gate_dst (N := 12) rfl ?_); (try (refine gate_guard (by rfl) ?_; dsimp only)); refine wpList_makeMap_MS (w0 := w) _ (b := w.heap.size) 9 4 rfl _ rfl (by repeat (first | (with_reducible first | exact HB.out | apply below_alloc | apply pw_below_drewN | apply below_drew1) | exact HB.out)) (below_size (by repeat (first | (with_reducible first | exact HB.out | apply below_alloc | apply pw_below_drewN | apply below_drew1) | exact HB.out))) ?_; intro v228 w4 ho5 hB_ hb; clear hB_; (first | rw [← Ny227.out] at ho5 | (simp only [Int.reduceToNat] at ho5; rw [← Ny227.out] at ho5)); have n0_ := Aside0.mk (Kd.R_elder' (by (with_reducible repeat (first | apply Kd.R_alloc | apply Kd.R_drewN | apply Kd.R_drew)); exact HO226.out) (MS_base ho5) hb); have n1_ := Aside0.mk ho5; have n2_ := Aside0.mk (below_step (by repeat (first | (with_reducible first | exact HB.out | apply below_alloc | apply pw_below_drewN | apply below_drew1) | exact HB.out)) hb); clear HO226; clear HB; have HO226 := n0_; have HO229 := n1_; have HB := n2_; clear n0_ n1_ n2_; clear hb ho5))
  go_loopg [3, 5] k (fun kq v3 v5 w' => ∃ (x3_1 : List ByteArray) (x4_1 : List ByteArray) (x5_1 : Bool), v5 = .bool x5_1 ∧ Aside0 (impl_startOrder.l0 kq l0 x3_1 x4_1 x5_1 = some r) ∧ Aside0 (kq ≤ k) ∧ Aside0 (Kd.R Kd.string 9 w' w.heap.size (fun k_ => some k_ ≠ (v228 : Value).ownBlock) v3 x3_1) ∧ Aside0 (MS Try.prog 9 4 w' w.heap.size v228 x4_1) ∧ Aside0 (Below w.heap.size w w'))
  case atStart => exact ⟨(y224), (y227), (true), (by first | rfl | (simp; done) | (simp [*]; done)), H', ⟨Nat.le_refl _⟩, ⟨by (with_reducible repeat (first | apply Kd.R_alloc | apply Kd.R_drewN | apply Kd.R_drew)); exact Kd.R_mono HO226.out (fun _ hk => hk.2)⟩, ⟨by (with_reducible repeat (first | apply MS_alloc | apply MS_drewN | apply MS_drew)); exact HO229.out⟩, ⟨by repeat (first | (with_reducible first | exact HB.out | apply below_alloc | apply pw_below_drewN | apply below_drew1) | exact HB.out)⟩⟩
  case round =>
    clear H'
    try clear p2
    obtain ⟨x3_1, x4_1, x5_1, rfl, HA, HK1, HO_3, HO_4, HB⟩ := hrel
    cases gk with
    | zero => exact absurd HA.out (by simp [impl_startOrder.l0])
    | succ k1 =>
      have H := HA.out
      clear HA
      simp only [impl_startOrder.l0] at H
      by_cases c6 : x5_1 = true
      · subst c6
        have H1 : (impl_startOrder.l1 k1 l0 x3_1 x4_1 false l0 (l0.length : Int) 0) = some r := by rw [if_pos rfl] at H; exact H
        clear H
        have H := H1
        clear H1
        have H' := Aside0.mk H
        clear H
        go_wp2
        go_loopg [3, 5, 16] k1 (fun kq v3 v5 v16 w' => ∃ (x3_2 : List ByteArray) (x4_2 : List ByteArray) (x5_2 : Bool) (x16_2 : Int), v5 = .bool x5_2 ∧ v16 = .int .i64 x16_2 ∧ Aside0 (impl_startOrder.l1 kq l0 x3_2 x4_2 x5_2 l0 (l0.length : Int) x16_2 = some r) ∧ Aside0 (kq ≤ k1) ∧ Aside0 (Kd.R Kd.string 9 w' w.heap.size (fun k_ => some k_ ≠ (v228 : Value).ownBlock) v3 x3_2) ∧ Aside0 (MS Try.prog 9 4 w' w.heap.size v228 x4_2) ∧ Aside0 (Below w.heap.size w w'))
        case atStart => exact ⟨(x3_1), (x4_1), (false), (0), (by first | rfl | (simp; done) | (simp [*]; done)), (by first | rfl | (simp; done) | (simp [*]; done)), H', ⟨Nat.le_refl _⟩, ⟨by (with_reducible repeat (first | apply Kd.R_alloc | apply Kd.R_drewN | apply Kd.R_drew)); exact HO_3.out⟩, ⟨by (with_reducible repeat (first | apply MS_alloc | apply MS_drewN | apply MS_drew)); exact HO_4.out⟩, ⟨by repeat (first | (with_reducible first | exact HB.out | apply below_alloc | apply pw_below_drewN | apply below_drew1) | exact HB.out)⟩⟩
        case round =>
          clear H'
          try clear p2
          try clear c6
          try clear p2
          obtain ⟨x3_2, x4_2, x5_2, x16_2, rfl, rfl, HA, HK2, HO_3, HO_4, HB⟩ := hrel
          cases gk with
          | zero => exact absurd HA.out (by simp [impl_startOrder.l1])
          | succ k2 =>
            have H := HA.out
            clear HA
            simp only [impl_startOrder.l1] at H
            by_cases c7 : x16_2 < (l0.length : Int)
            · rw [if_pos c7] at H
              have c7b0 : decide (x16_2 < (l0.length : Int)) = true := decide_eq_true c7
              clear c7
              by_cases c8 : 0 ≤ x16_2
              · rw [if_pos c8] at H
                have c8b0 : decide (0 ≤ x16_2) = true := decide_eq_true c8
                clear c8
                by_cases c9 : x16_2 < (l0.length : Int)
                · rw [if_pos c9] at H
                  have c9b0 : decide (x16_2 < (l0.length : Int)) = true := decide_eq_true c9
                  clear c9
                  replace H := Option.bind_eq_some_iff.mp H
                  obtain ⟨t232, A100, H⟩ := H
                  replace H : (if t232 = true then (impl_startOrder.l1 k2 l0 x3_2 x4_2 x5_2 l0 (l0.length : Int) (wrap64 (x16_2 + 1))) else ((impl_waits.f k2 l0 ((rd_T55 l0 x16_2).f0) ((rd_T55 l0 x16_2).f1) ((rd_T55 l0 x16_2).f2) ((rd_T55 l0 x16_2).f3) ((rd_T55 l0 x16_2).f4)).bind fun t233 => (if szAll t233 = true then (impl_startOrder.l2 k2 l0 x3_2 x4_2 x5_2 true l0 (l0.length : Int) x16_2 t233 (t233.length : Int) 0 ((rd_T55 l0 x16_2).f0) ((rd_T55 l0 x16_2).f1) ((rd_T55 l0 x16_2).f2) ((rd_T55 l0 x16_2).f3) ((rd_T55 l0 x16_2).f4)) else none))) = some r := H
                  have A10 := Aside0.mk A100
                  clear A100
                  by_cases c11 : t232 = true
                  · subst c11
                    have H1 : (impl_startOrder.l1 k2 l0 x3_2 x4_2 x5_2 l0 (l0.length : Int) (wrap64 (x16_2 + 1))) = some r := by rw [if_pos rfl] at H; exact H
                    clear H
                    have H := H1
                    clear H1
                    have H' := Aside0.mk H
                    clear H
                    have p230 : 0 ≤ (x16_2 : Int) := of_decide_eq_true (by first | (with_reducible assumption) | assumption)
                    have q230 : x16_2 < (l0.length : Int) := of_decide_eq_true (by first | (with_reducible assumption) | assumption)
                    obtain ⟨ad230, A230_1, c230_1, A230_2, c230_2, e230, hx230_0, hx230_1, hx230_2, hx230_3, hx230_4, hl230_1, hi230_1, hl230_2, hi230_2⟩ := at_T55 HR0.out x16_2 p230 q230
                    cases e230
                    try (replace hx230_0 := (HB.out.cell (World.block_lt_of_cell? w _ hx230_0)).trans hx230_0)
                    try (replace hx230_1 := (HB.out.cell (World.block_lt_of_cell? w _ hx230_1)).trans hx230_1)
                    try (replace hx230_2 := (HB.out.cell (World.block_lt_of_cell? w _ hx230_2)).trans hx230_2)
                    try (replace hx230_3 := (HB.out.cell (World.block_lt_of_cell? w _ hx230_3)).trans hx230_3)
                    try (replace hx230_4 := (HB.out.cell (World.block_lt_of_cell? w _ hx230_4)).trans hx230_4)
                    have HR230_1 := Aside0.mk hi230_1
                    have HC230_1 := Aside0.mk hl230_1
                    clear hi230_1 hl230_1
                    have HR230_2 := Aside0.mk hi230_2
                    have HC230_2 := Aside0.mk hl230_2
                    clear hi230_2 hl230_2
                    replace p230 := eq_true p230
                    replace q230 := eq_true q230
                    go_wp2_with (first | ((with_reducible refine gate_dst (N := 7) rfl ?_); refine box_event ?hg (N := 7) ?hd (cs := #[.string (⟨#[]⟩ : ByteArray), .slice none 0 0, .slice none 0 0, .string (⟨#[]⟩ : ByteArray), .bool false]) (t := 55) ?hr ?_; (case hd => rfl); (case hg => rfl); (case hr => first | (go_simp; done) | (go_simp; rfl)); intro gb231 hg w12 hbox hb; have n0_ := Aside0.mk (Kd.R_below (by (with_reducible repeat (first | apply Kd.R_alloc | apply Kd.R_drewN | apply Kd.R_drew)); exact HO_3.out) hb); have n1_ := Aside0.mk (MS_below (by (with_reducible repeat (first | apply MS_alloc | apply MS_drewN | apply MS_drew)); exact HO_4.out) hb); have n2_ := Aside0.mk (below_step (by repeat (first | (with_reducible first | exact HB.out | apply below_alloc | apply pw_below_drewN | apply below_drew1) | exact HB.out)) hb); have n3_ := Aside0.mk (hbox); have n4_ := Aside0.mk ((by rw [hg]; exact (below_size (by repeat (first | (with_reducible first | exact HB.out | apply below_alloc | apply pw_below_drewN | apply below_drew1) | exact HB.out))) : w.heap.size ≤ gb231)); have n5_ := Aside0.mk ((by rw [hg]; exact (below_size (by repeat (first | (with_reducible first | exact HB.out | apply below_alloc | apply pw_below_drewN | apply below_drew1) | exact HB.out))) : w.heap.size ≤ gb231)); clear HO_3; clear HO_4; clear HB; have HO_3 := n0_; have HO_4 := n1_; have HB := n2_; have BK231 := n3_; have GW231 := n4_; have GE231 := n5_; clear n0_ n1_ n2_ n3_ n4_ n5_; clear hb hbox hg; have hcz13_0 : w12.cell? ⟨gb231, 0, none⟩ = some (.string (⟨#[]⟩ : ByteArray)) := (blk_cell BK231.out 0).trans rfl; have hcz13_1 : w12.cell? ⟨gb231, 1, none⟩ = some (.slice none 0 0) := (blk_cell BK231.out 1).trans rfl; have hcz13_2 : w12.cell? ⟨gb231, 2, none⟩ = some (.slice none 0 0) := (blk_cell BK231.out 2).trans rfl; have hcz13_3 : w12.cell? ⟨gb231, 3, none⟩ = some (.string (⟨#[]⟩ : ByteArray)) := (blk_cell BK231.out 3).trans rfl; have hcz13_4 : w12.cell? ⟨gb231, 4, none⟩ = some (.bool false) := (blk_cell BK231.out 4).trans rfl; have hfz13_0 := blk_frozen BK231.out 0; have hfz13_1 := blk_frozen BK231.out 1; have hfz13_2 := blk_frozen BK231.out 2; have hfz13_3 := blk_frozen BK231.out 3; have hfz13_4 := blk_frozen BK231.out 4) | (at_lookup; (try (refine gate_guard (by rfl) ?_; dsimp only)); refine wpList_lookup_MS (setTy_impl_startOrder) _ (s := ((rd_T55 l0 x16_2).f0)) (S := x4_2) (c := true) (b := w.heap.size) rfl _ _ rfl rfl rfl ?aO (sz_nameS HZ0.out x16_2) A10.out ?_; (case aO => ((with_reducible repeat (first | apply MS_alloc | apply MS_drewN | apply MS_drew)); exact (MS_drop (MS_far ⟨gb231, 4, none⟩ (MS_far ⟨gb231, 3, none⟩ (MS_far ⟨gb231, 2, none⟩ (MS_far ⟨gb231, 1, none⟩ (MS_far ⟨gb231, 0, none⟩ (MS_types HO_4.out BK231.out) (.string ((rd_T55 l0 x16_2).f0))) (.slice A230_1 ((rd_T55 l0 x16_2).f1).length c230_1)) (.slice A230_2 ((rd_T55 l0 x16_2).f2).length c230_2)) (.string ((rd_T55 l0 x16_2).f3))) (.bool ((rd_T55 l0 x16_2).f4))))))))
                    go_roundg k2
                    case measure => have := HK1.out; have := HK2.out; omega
                    case rel => exact ⟨(x3_2), (x4_2), (x5_2), (wrap64 (x16_2 + 1)), (by first | rfl | (simp; done) | (simp [*]; done)), (by first | rfl | (simp; done) | (simp [*]; done)), H', ⟨by have := HK1.out; have := HK2.out; omega⟩, ⟨by (with_reducible repeat (first | apply Kd.R_alloc | apply Kd.R_drewN | apply Kd.R_drew)); exact Kd.R_mono (Kd.R_far (p := ⟨gb231, 4, none⟩) (Kd.R_far (p := ⟨gb231, 3, none⟩) (Kd.R_far (p := ⟨gb231, 2, none⟩) (Kd.R_far (p := ⟨gb231, 1, none⟩) (Kd.R_far (p := ⟨gb231, 0, none⟩) (Kd.R_types HO_3.out BK231.out (by decide)) (fun _ hk => hk.2) (.string ((rd_T55 l0 x16_2).f0))) (fun _ hk => hk.2) (.slice A230_1 ((rd_T55 l0 x16_2).f1).length c230_1)) (fun _ hk => hk.2) (.slice A230_2 ((rd_T55 l0 x16_2).f2).length c230_2)) (fun _ hk => hk.2) (.string ((rd_T55 l0 x16_2).f3))) (fun _ hk => hk.2) (.bool ((rd_T55 l0 x16_2).f4))) (fun _ hk => hk.1)⟩, ⟨by (with_reducible repeat (first | apply MS_alloc | apply MS_drewN | apply MS_drew)); exact MS_drop (MS_far ⟨gb231, 4, none⟩ (MS_far ⟨gb231, 3, none⟩ (MS_far ⟨gb231, 2, none⟩ (MS_far ⟨gb231, 1, none⟩ (MS_far ⟨gb231, 0, none⟩ (MS_types HO_4.out BK231.out) (.string ((rd_T55 l0 x16_2).f0))) (.slice A230_1 ((rd_T55 l0 x16_2).f1).length c230_1)) (.slice A230_2 ((rd_T55 l0 x16_2).f2).length c230_2)) (.string ((rd_T55 l0 x16_2).f3))) (.bool ((rd_T55 l0 x16_2).f4)))⟩, ⟨by repeat (first | (with_reducible first | exact HB.out | apply below_alloc | apply pw_below_drewN | apply below_drew1 | refine below_set ?_ GE231.out) | exact HB.out)⟩⟩
                  · replace c11 := Bool.eq_false_iff.mpr c11
                    subst c11
                    have H1 : ((impl_waits.f k2 l0 ((rd_T55 l0 x16_2).f0) ((rd_T55 l0 x16_2).f1) ((rd_T55 l0 x16_2).f2) ((rd_T55 l0 x16_2).f3) ((rd_T55 l0 x16_2).f4)).bind fun t233 => (if szAll t233 = true then (impl_startOrder.l2 k2 l0 x3_2 x4_2 x5_2 true l0 (l0.length : Int) x16_2 t233 (t233.length : Int) 0 ((rd_T55 l0 x16_2).f0) ((rd_T55 l0 x16_2).f1) ((rd_T55 l0 x16_2).f2) ((rd_T55 l0 x16_2).f3) ((rd_T55 l0 x16_2).f4)) else none)) = some r := by rw [if_neg (show ¬ (false = true) by decide)] at H; exact H
                    clear H
                    have H := H1
                    clear H1
                    replace H := Option.bind_eq_some_iff.mp H
                    obtain ⟨t233, A150, H⟩ := H
                    replace H : (if szAll t233 = true then (impl_startOrder.l2 k2 l0 x3_2 x4_2 x5_2 true l0 (l0.length : Int) x16_2 t233 (t233.length : Int) 0 ((rd_T55 l0 x16_2).f0) ((rd_T55 l0 x16_2).f1) ((rd_T55 l0 x16_2).f2) ((rd_T55 l0 x16_2).f3) ((rd_T55 l0 x16_2).f4)) else none) = some r := H
                    by_cases hz_ : szAll t233 = true
                    rotate_left
                    · rw [if_neg hz_] at H
                      exact absurd H (by simp)
                    rw [if_pos hz_] at H
                    have HZ2 := Aside0.mk hz_
                    clear hz_
                    replace H : (impl_startOrder.l2 k2 l0 x3_2 x4_2 x5_2 true l0 (l0.length : Int) x16_2 t233 (t233.length : Int) 0 ((rd_T55 l0 x16_2).f0) ((rd_T55 l0 x16_2).f1) ((rd_T55 l0 x16_2).f2) ((rd_T55 l0 x16_2).f3) ((rd_T55 l0 x16_2).f4)) = some r := H
                    have A15 := Aside0.mk A150
                    clear A150
                    have H' := Aside0.mk H
                    clear H
                    have p230 : 0 ≤ (x16_2 : Int) := of_decide_eq_true (by first | (with_reducible assumption) | assumption)
                    have q230 : x16_2 < (l0.length : Int) := of_decide_eq_true (by first | (with_reducible assumption) | assumption)
                    obtain ⟨ad230, A230_1, c230_1, A230_2, c230_2, e230, hx230_0, hx230_1, hx230_2, hx230_3, hx230_4, hl230_1, hi230_1, hl230_2, hi230_2⟩ := at_T55 HR0.out x16_2 p230 q230
                    cases e230
                    try (replace hx230_0 := (HB.out.cell (World.block_lt_of_cell? w _ hx230_0)).trans hx230_0)
                    try (replace hx230_1 := (HB.out.cell (World.block_lt_of_cell? w _ hx230_1)).trans hx230_1)
                    try (replace hx230_2 := (HB.out.cell (World.block_lt_of_cell? w _ hx230_2)).trans hx230_2)
                    try (replace hx230_3 := (HB.out.cell (World.block_lt_of_cell? w _ hx230_3)).trans hx230_3)
                    try (replace hx230_4 := (HB.out.cell (World.block_lt_of_cell? w _ hx230_4)).trans hx230_4)
                    have HR230_1 := Aside0.mk hi230_1
                    have HC230_1 := Aside0.mk hl230_1
                    clear hi230_1 hl230_1
                    have HR230_2 := Aside0.mk hi230_2
                    have HC230_2 := Aside0.mk hl230_2
                    clear hi230_2 hl230_2
                    replace p230 := eq_true p230
                    replace q230 := eq_true q230
                    go_wp2_with (first | ((with_reducible refine gate_dst (N := 7) rfl ?_); refine box_event ?hg (N := 7) ?hd (cs := #[.string (⟨#[]⟩ : ByteArray), .slice none 0 0, .slice none 0 0, .string (⟨#[]⟩ : ByteArray), .bool false]) (t := 55) ?hr ?_; (case hd => rfl); (case hg => rfl); (case hr => first | (go_simp; done) | (go_simp; rfl)); intro gb231 hg w16 hbox hb; have n0_ := Aside0.mk (Kd.R_below (by (with_reducible repeat (first | apply Kd.R_alloc | apply Kd.R_drewN | apply Kd.R_drew)); exact HO_3.out) hb); have n1_ := Aside0.mk (MS_below (by (with_reducible repeat (first | apply MS_alloc | apply MS_drewN | apply MS_drew)); exact HO_4.out) hb); have n2_ := Aside0.mk (below_step (by repeat (first | (with_reducible first | exact HB.out | apply below_alloc | apply pw_below_drewN | apply below_drew1) | exact HB.out)) hb); have n3_ := Aside0.mk (hbox); have n4_ := Aside0.mk ((by rw [hg]; exact (below_size (by repeat (first | (with_reducible first | exact HB.out | apply below_alloc | apply pw_below_drewN | apply below_drew1) | exact HB.out))) : w.heap.size ≤ gb231)); have n5_ := Aside0.mk ((by rw [hg]; exact (below_size (by repeat (first | (with_reducible first | exact HB.out | apply below_alloc | apply pw_below_drewN | apply below_drew1) | exact HB.out))) : w.heap.size ≤ gb231)); clear HO_3; clear HO_4; clear HB; have HO_3 := n0_; have HO_4 := n1_; have HB := n2_; have BK231 := n3_; have GW231 := n4_; have GE231 := n5_; clear n0_ n1_ n2_ n3_ n4_ n5_; clear hb hbox hg; have hcz17_0 : w16.cell? ⟨gb231, 0, none⟩ = some (.string (⟨#[]⟩ : ByteArray)) := (blk_cell BK231.out 0).trans rfl; have hcz17_1 : w16.cell? ⟨gb231, 1, none⟩ = some (.slice none 0 0) := (blk_cell BK231.out 1).trans rfl; have hcz17_2 : w16.cell? ⟨gb231, 2, none⟩ = some (.slice none 0 0) := (blk_cell BK231.out 2).trans rfl; have hcz17_3 : w16.cell? ⟨gb231, 3, none⟩ = some (.string (⟨#[]⟩ : ByteArray)) := (blk_cell BK231.out 3).trans rfl; have hcz17_4 : w16.cell? ⟨gb231, 4, none⟩ = some (.bool false) := (blk_cell BK231.out 4).trans rfl; have hfz17_0 := blk_frozen BK231.out 0; have hfz17_1 := blk_frozen BK231.out 1; have hfz17_2 := blk_frozen BK231.out 2; have hfz17_3 := blk_frozen BK231.out 3; have hfz17_4 := blk_frozen BK231.out 4) | (at_lookup; (try (refine gate_guard (by rfl) ?_; dsimp only)); refine wpList_lookup_MS (setTy_impl_startOrder) _ (s := ((rd_T55 l0 x16_2).f0)) (S := x4_2) (c := false) (b := w.heap.size) rfl _ _ rfl rfl rfl ?aO (sz_nameS HZ0.out x16_2) A10.out ?_; (case aO => ((with_reducible repeat (first | apply MS_alloc | apply MS_drewN | apply MS_drew)); exact (MS_drop (MS_far ⟨gb231, 4, none⟩ (MS_far ⟨gb231, 3, none⟩ (MS_far ⟨gb231, 2, none⟩ (MS_far ⟨gb231, 1, none⟩ (MS_far ⟨gb231, 0, none⟩ (MS_types HO_4.out BK231.out) (.string ((rd_T55 l0 x16_2).f0))) (.slice A230_1 ((rd_T55 l0 x16_2).f1).length c230_1)) (.slice A230_2 ((rd_T55 l0 x16_2).f2).length c230_2)) (.string ((rd_T55 l0 x16_2).f3))) (.bool ((rd_T55 l0 x16_2).f4))))))) | ((with_reducible refine gate_callee (f := 68) rfl ?_); refine goesL_ (some 26) rfl rfl Try.func68 (by kernel_rfl) rfl #[.slice (some ad230) l0.length c0, .agg #[.string ((rd_T55 l0 x16_2).f0), .slice A230_1 ((rd_T55 l0 x16_2).f1).length c230_1, .slice A230_2 ((rd_T55 l0 x16_2).f2).length c230_2, .string ((rd_T55 l0 x16_2).f3), .bool ((rd_T55 l0 x16_2).f4)]] rfl (by (try simp only [List.map_toArray, List.map_cons, List.map_nil]); first | done | rfl | (simp only [List.length_drop, List.length_take]; rfl)) ?_; (with_reducible refine (impl_waits.calls k2 _ _ l0 ((rd_T55 l0 x16_2).f0) _ _ ((rd_T55 l0 x16_2).f1) _ _ ((rd_T55 l0 x16_2).f2) ((rd_T55 l0 x16_2).f3) ((rd_T55 l0 x16_2).f4) t233 _ ?side1 ?side2 ?side3 ?side4 ?side5 ?side6 A15.out).mono ?_); (case side1 => exact Kd.C_below HR0.out (by repeat (first | (with_reducible first | exact HB.out | apply below_alloc | apply pw_below_drewN | apply below_drew1 | refine below_set ?_ GE231.out) | exact HB.out))); (case side2 => exact HC0.out); (case side3 => exact Kd.C_below HR230_1.out (by repeat (first | (with_reducible first | exact HB.out | apply below_alloc | apply pw_below_drewN | apply below_drew1 | refine below_set ?_ GE231.out) | exact HB.out))); (case side4 => exact HC230_1.out); (case side5 => exact Kd.C_below HR230_2.out (by repeat (first | (with_reducible first | exact HB.out | apply below_alloc | apply pw_below_drewN | apply below_drew1 | refine below_set ?_ GE231.out) | exact HB.out))); (case side6 => exact HC230_2.out); rintro e w19 ⟨v234, rfl, ho0, hb⟩; refine ⟨_, rfl, ?_⟩; have n0_ := Aside0.mk (Kd.R_elder' (by (with_reducible repeat (first | apply Kd.R_alloc | apply Kd.R_drewN | apply Kd.R_drew)); exact (Kd.R_mono (Kd.R_far (p := ⟨gb231, 4, none⟩) (Kd.R_far (p := ⟨gb231, 3, none⟩) (Kd.R_far (p := ⟨gb231, 2, none⟩) (Kd.R_far (p := ⟨gb231, 1, none⟩) (Kd.R_far (p := ⟨gb231, 0, none⟩) (Kd.R_types HO_3.out BK231.out (by decide)) (fun _ hk => hk.2) (.string ((rd_T55 l0 x16_2).f0))) (fun _ hk => hk.2) (.slice A230_1 ((rd_T55 l0 x16_2).f1).length c230_1)) (fun _ hk => hk.2) (.slice A230_2 ((rd_T55 l0 x16_2).f2).length c230_2)) (fun _ hk => hk.2) (.string ((rd_T55 l0 x16_2).f3))) (fun _ hk => hk.2) (.bool ((rd_T55 l0 x16_2).f4))) (fun _ h_ => h_.1))) (Kd.R_base ho0) hb); have n1_ := Aside0.mk (MS_below (by (with_reducible repeat (first | apply MS_alloc | apply MS_drewN | apply MS_drew)); exact (MS_drop (MS_far ⟨gb231, 4, none⟩ (MS_far ⟨gb231, 3, none⟩ (MS_far ⟨gb231, 2, none⟩ (MS_far ⟨gb231, 1, none⟩ (MS_far ⟨gb231, 0, none⟩ (MS_types HO_4.out BK231.out) (.string ((rd_T55 l0 x16_2).f0))) (.slice A230_1 ((rd_T55 l0 x16_2).f1).length c230_1)) (.slice A230_2 ((rd_T55 l0 x16_2).f2).length c230_2)) (.string ((rd_T55 l0 x16_2).f3))) (.bool ((rd_T55 l0 x16_2).f4))))) hb); have n2_ := Aside0.mk (Kd.R_lower (Kd.R_new' (Kd.R_new' ho0 (Kd.R_lt (by (with_reducible repeat (first | apply Kd.R_alloc | apply Kd.R_drewN | apply Kd.R_drew)); exact (Kd.R_mono (Kd.R_far (p := ⟨gb231, 4, none⟩) (Kd.R_far (p := ⟨gb231, 3, none⟩) (Kd.R_far (p := ⟨gb231, 2, none⟩) (Kd.R_far (p := ⟨gb231, 1, none⟩) (Kd.R_far (p := ⟨gb231, 0, none⟩) (Kd.R_types HO_3.out BK231.out (by decide)) (fun _ hk => hk.2) (.string ((rd_T55 l0 x16_2).f0))) (fun _ hk => hk.2) (.slice A230_1 ((rd_T55 l0 x16_2).f1).length c230_1)) (fun _ hk => hk.2) (.slice A230_2 ((rd_T55 l0 x16_2).f2).length c230_2)) (fun _ hk => hk.2) (.string ((rd_T55 l0 x16_2).f3))) (fun _ hk => hk.2) (.bool ((rd_T55 l0 x16_2).f4))) (fun _ h_ => h_.1))))) (MS_lt (by (with_reducible repeat (first | apply MS_alloc | apply MS_drewN | apply MS_drew)); exact (MS_drop (MS_far ⟨gb231, 4, none⟩ (MS_far ⟨gb231, 3, none⟩ (MS_far ⟨gb231, 2, none⟩ (MS_far ⟨gb231, 1, none⟩ (MS_far ⟨gb231, 0, none⟩ (MS_types HO_4.out BK231.out) (.string ((rd_T55 l0 x16_2).f0))) (.slice A230_1 ((rd_T55 l0 x16_2).f1).length c230_1)) (.slice A230_2 ((rd_T55 l0 x16_2).f2).length c230_2)) (.string ((rd_T55 l0 x16_2).f3))) (.bool ((rd_T55 l0 x16_2).f4))))))) (below_size (by repeat (first | (with_reducible first | exact HB.out | apply below_alloc | apply pw_below_drewN | apply below_drew1 | refine below_set ?_ GE231.out) | exact HB.out)))); have n3_ := Aside0.mk (blk_below (g := gb231) (o := .cells #[.string ((rd_T55 l0 x16_2).f0), .slice A230_1 ((rd_T55 l0 x16_2).f1).length c230_1, .slice A230_2 ((rd_T55 l0 x16_2).f2).length c230_2, .string ((rd_T55 l0 x16_2).f3), .bool ((rd_T55 l0 x16_2).f4)] 55 (0, 0)) (by (with_reducible repeat (first | refine blk_drewN ?_ _ | refine blk_drew ?_ | refine blk_alloc ?_ _)); refine blk_put (cs := #[.string ((rd_T55 l0 x16_2).f0), .slice A230_1 ((rd_T55 l0 x16_2).f1).length c230_1, .slice A230_2 ((rd_T55 l0 x16_2).f2).length c230_2, .string ((rd_T55 l0 x16_2).f3), .bool false]) ?_ 4 _ rfl; (with_reducible repeat (first | refine blk_drewN ?_ _ | refine blk_drew ?_ | refine blk_alloc ?_ _)); refine blk_put (cs := #[.string ((rd_T55 l0 x16_2).f0), .slice A230_1 ((rd_T55 l0 x16_2).f1).length c230_1, .slice A230_2 ((rd_T55 l0 x16_2).f2).length c230_2, .string (⟨#[]⟩ : ByteArray), .bool false]) ?_ 3 _ rfl; (with_reducible repeat (first | refine blk_drewN ?_ _ | refine blk_drew ?_ | refine blk_alloc ?_ _)); refine blk_put (cs := #[.string ((rd_T55 l0 x16_2).f0), .slice A230_1 ((rd_T55 l0 x16_2).f1).length c230_1, .slice none 0 0, .string (⟨#[]⟩ : ByteArray), .bool false]) ?_ 2 _ rfl; (with_reducible repeat (first | refine blk_drewN ?_ _ | refine blk_drew ?_ | refine blk_alloc ?_ _)); refine blk_put (cs := #[.string ((rd_T55 l0 x16_2).f0), .slice none 0 0, .slice none 0 0, .string (⟨#[]⟩ : ByteArray), .bool false]) ?_ 1 _ rfl; (with_reducible repeat (first | refine blk_drewN ?_ _ | refine blk_drew ?_ | refine blk_alloc ?_ _)); refine blk_put (cs := #[.string (⟨#[]⟩ : ByteArray), .slice none 0 0, .slice none 0 0, .string (⟨#[]⟩ : ByteArray), .bool false]) ?_ 0 _ rfl; (with_reducible repeat (first | refine blk_drewN ?_ _ | refine blk_drew ?_ | refine blk_alloc ?_ _)); exact BK231.out) hb); have n4_ := Aside0.mk (below_step (by repeat (first | (with_reducible first | exact HB.out | apply below_alloc | apply pw_below_drewN | apply below_drew1 | refine below_set ?_ GE231.out) | exact HB.out)) hb); clear HO_3; clear HO_4; clear BK231; clear HB; have HO_3 := n0_; have HO_4 := n1_; have HO235 := n2_; have BK231 := n3_; have HB := n4_; clear n0_ n1_ n2_ n3_ n4_; (try clear hb); (try clear hb2); (try clear hk); (try clear hi); (try clear ho0); obtain ⟨Ao20, co20, eo20⟩ := Kd.R_slice HO235.out; subst eo20))
                    go_loopg [8, 28] k2 (fun kq v8 v28 w' => ∃ (x8_3 : Bool) (x28_3 : Int), v8 = .bool x8_3 ∧ v28 = .int .i64 x28_3 ∧ Aside0 (impl_startOrder.l2 kq l0 x3_2 x4_2 x5_2 x8_3 l0 (l0.length : Int) x16_2 t233 (t233.length : Int) x28_3 ((rd_T55 l0 x16_2).f0) ((rd_T55 l0 x16_2).f1) ((rd_T55 l0 x16_2).f2) ((rd_T55 l0 x16_2).f3) ((rd_T55 l0 x16_2).f4) = some r) ∧ Aside0 (kq ≤ k2) ∧ Aside0 (Kd.R Kd.string 9 w' w.heap.size (fun k_ => some k_ ≠ (v228 : Value).ownBlock ∧ some k_ ≠ ((.slice Ao20 t233.length co20) : Value).ownBlock) u3 x3_2) ∧ Aside0 (MS Try.prog 9 4 w' w.heap.size v228 x4_2) ∧ Aside0 (Kd.R Kd.string 9 w' w.heap.size (fun k_ => some k_ ≠ (u3 : Value).ownBlock ∧ some k_ ≠ (v228 : Value).ownBlock) (.slice Ao20 t233.length co20) t233) ∧ Aside0 (w'.heap[gb231]? = some (.cells #[.string ((rd_T55 l0 x16_2).f0), (.slice A230_1 ((rd_T55 l0 x16_2).f1).length c230_1), (.slice A230_2 ((rd_T55 l0 x16_2).f2).length c230_2), .string ((rd_T55 l0 x16_2).f3), .bool ((rd_T55 l0 x16_2).f4)] 55 (0, 0))) ∧ Aside0 (Below w.heap.size w w'))
                    case atStart => exact ⟨(true), (0), (by first | rfl | (simp; done) | (simp [*]; done)), (by first | rfl | (simp; done) | (simp [*]; done)), H', ⟨Nat.le_refl _⟩, ⟨by (with_reducible repeat (first | apply Kd.R_alloc | apply Kd.R_drewN | apply Kd.R_drew)); exact HO_3.out⟩, ⟨by (with_reducible repeat (first | apply MS_alloc | apply MS_drewN | apply MS_drew)); exact HO_4.out⟩, ⟨by (with_reducible repeat (first | apply Kd.R_alloc | apply Kd.R_drewN | apply Kd.R_drew)); exact Kd.R_mono HO235.out (fun _ hk => ⟨hk.1.2, hk.2⟩)⟩, ⟨by (with_reducible repeat (first | refine blk_drewN ?_ _ | refine blk_drew ?_ | refine blk_alloc ?_ _)); exact BK231.out⟩, ⟨by repeat (first | (with_reducible first | exact HB.out | apply below_alloc | apply pw_below_drewN | apply below_drew1 | refine below_set ?_ GE231.out) | exact HB.out)⟩⟩
                    case round =>
                      clear H'
                      try clear c1
                      try clear c2
                      try clear p2
                      try clear q2
                      try clear hx2
                      try clear c6
                      try clear p6
                      try clear c7
                      try clear c7b0
                      try clear c8
                      try clear c8b0
                      try clear c9
                      try clear c9b0
                      try clear c11
                      try clear hcz13_0
                      try clear hcz13_1
                      try clear hcz13_2
                      try clear hcz13_3
                      try clear hcz13_4
                      try clear hcz17_0
                      try clear hcz17_1
                      try clear hcz17_2
                      try clear hcz17_3
                      try clear hcz17_4
                      try clear hfz13_0
                      try clear hfz13_1
                      try clear hfz13_2
                      try clear hfz13_3
                      try clear hfz13_4
                      try clear hfz17_0
                      try clear hfz17_1
                      try clear hfz17_2
                      try clear hfz17_3
                      try clear hfz17_4
                      try clear hx230_0
                      try clear hx230_1
                      try clear hx230_2
                      try clear hx230_3
                      try clear hx230_4
                      try clear p2
                      try clear p230
                      try clear q230
                      obtain ⟨x8_3, x28_3, rfl, rfl, HA, HK3, HO_3, HO_4, HO_26, BK231, HB⟩ := hrel
                      cases gk with
                      | zero => exact absurd HA.out (by simp [impl_startOrder.l2])
                      | succ k3 =>
                        have H := HA.out
                        clear HA
                        simp only [impl_startOrder.l2] at H
                        by_cases c21 : x28_3 < (t233.length : Int)
                        · rw [if_pos c21] at H
                          have c21b0 : decide (x28_3 < (t233.length : Int)) = true := decide_eq_true c21
                          clear c21
                          by_cases c22 : 0 ≤ x28_3
                          · rw [if_pos c22] at H
                            have c22b0 : decide (0 ≤ x28_3) = true := decide_eq_true c22
                            clear c22
                            by_cases c23 : x28_3 < (t233.length : Int)
                            · rw [if_pos c23] at H
                              have c23b0 : decide (x28_3 < (t233.length : Int)) = true := decide_eq_true c23
                              clear c23
                              by_cases c24 : x8_3 = true
                              · subst c24
                                have H1 : ((some (hasW x4_2 (rdOf ByteArray.empty t233 x28_3))).bind fun t237 => (impl_startOrder.l2 k3 l0 x3_2 x4_2 x5_2 t237 l0 (l0.length : Int) x16_2 t233 (t233.length : Int) (wrap64 (x28_3 + 1)) ((rd_T55 l0 x16_2).f0) ((rd_T55 l0 x16_2).f1) ((rd_T55 l0 x16_2).f2) ((rd_T55 l0 x16_2).f3) ((rd_T55 l0 x16_2).f4))) = some r := by rw [if_pos rfl] at H; exact H
                                clear H
                                have H := H1
                                clear H1
                                replace H := Option.bind_eq_some_iff.mp H
                                obtain ⟨t237, A250, H⟩ := H
                                replace H : (impl_startOrder.l2 k3 l0 x3_2 x4_2 x5_2 t237 l0 (l0.length : Int) x16_2 t233 (t233.length : Int) (wrap64 (x28_3 + 1)) ((rd_T55 l0 x16_2).f0) ((rd_T55 l0 x16_2).f1) ((rd_T55 l0 x16_2).f2) ((rd_T55 l0 x16_2).f3) ((rd_T55 l0 x16_2).f4)) = some r := H
                                have A25 := Aside0.mk A250
                                clear A250
                                have H' := Aside0.mk H
                                clear H
                                have p236 : 0 ≤ (x28_3 : Int) := of_decide_eq_true (by first | (with_reducible assumption) | assumption)
                                have q236 : x28_3 < (t233.length : Int) := of_decide_eq_true (by first | (with_reducible assumption) | assumption)
                                obtain ⟨ad236, e236, hx236_0⟩ := Kd.at_string (Kd.R_reads' HO_26.out).2.2 x28_3 p236 q236
                                cases e236
                                replace p236 := eq_true p236
                                replace q236 := eq_true q236
                                go_wp2_with (first | (at_lookup; (try (refine gate_guard (by rfl) ?_; dsimp only)); refine wpList_lookup_MS (setTy_impl_startOrder) _ (s := (rdOf ByteArray.empty t233 x28_3)) (S := x4_2) (c := t237) (b := w.heap.size) rfl _ _ rfl rfl rfl ?aO (sz_rowS HZ2.out x28_3) A25.out ?_; (case aO => ((with_reducible repeat (first | apply MS_alloc | apply MS_drewN | apply MS_drew)); exact HO_4.out))))
                                go_roundg k3
                                case measure => have := HK1.out; have := HK2.out; have := HK3.out; omega
                                case rel => exact ⟨(t237), (wrap64 (x28_3 + 1)), (by first | rfl | (simp; done) | (simp [*]; done)), (by first | rfl | (simp; done) | (simp [*]; done)), H', ⟨by have := HK1.out; have := HK2.out; have := HK3.out; omega⟩, ⟨by (with_reducible repeat (first | apply Kd.R_alloc | apply Kd.R_drewN | apply Kd.R_drew)); exact HO_3.out⟩, ⟨by (with_reducible repeat (first | apply MS_alloc | apply MS_drewN | apply MS_drew)); exact HO_4.out⟩, ⟨by (with_reducible repeat (first | apply Kd.R_alloc | apply Kd.R_drewN | apply Kd.R_drew)); exact HO_26.out⟩, ⟨by (with_reducible repeat (first | refine blk_drewN ?_ _ | refine blk_drew ?_ | refine blk_alloc ?_ _)); exact BK231.out⟩, ⟨by repeat (first | (with_reducible first | exact HB.out | apply below_alloc | apply pw_below_drewN | apply below_drew1 | refine below_set ?_ GE231.out) | exact HB.out)⟩⟩
                              · replace c24 := Bool.eq_false_iff.mpr c24
                                subst c24
                                have H1 : (impl_startOrder.l2 k3 l0 x3_2 x4_2 x5_2 false l0 (l0.length : Int) x16_2 t233 (t233.length : Int) (wrap64 (x28_3 + 1)) ((rd_T55 l0 x16_2).f0) ((rd_T55 l0 x16_2).f1) ((rd_T55 l0 x16_2).f2) ((rd_T55 l0 x16_2).f3) ((rd_T55 l0 x16_2).f4)) = some r := by rw [if_neg (show ¬ (false = true) by decide)] at H; exact H
                                clear H
                                have H := H1
                                clear H1
                                have H' := Aside0.mk H
                                clear H
                                have p236 : 0 ≤ (x28_3 : Int) := of_decide_eq_true (by first | (with_reducible assumption) | assumption)
                                have q236 : x28_3 < (t233.length : Int) := of_decide_eq_true (by first | (with_reducible assumption) | assumption)
                                obtain ⟨ad236, e236, hx236_0⟩ := Kd.at_string (Kd.R_reads' HO_26.out).2.2 x28_3 p236 q236
                                cases e236
                                replace p236 := eq_true p236
                                replace q236 := eq_true q236
                                go_wp2
                                go_roundg k3
                                case measure => have := HK1.out; have := HK2.out; have := HK3.out; omega
                                case rel => exact ⟨(false), (wrap64 (x28_3 + 1)), (by first | rfl | (simp; done) | (simp [*]; done)), (by first | rfl | (simp; done) | (simp [*]; done)), H', ⟨by have := HK1.out; have := HK2.out; have := HK3.out; omega⟩, ⟨by (with_reducible repeat (first | apply Kd.R_alloc | apply Kd.R_drewN | apply Kd.R_drew)); exact HO_3.out⟩, ⟨by (with_reducible repeat (first | apply MS_alloc | apply MS_drewN | apply MS_drew)); exact HO_4.out⟩, ⟨by (with_reducible repeat (first | apply Kd.R_alloc | apply Kd.R_drewN | apply Kd.R_drew)); exact HO_26.out⟩, ⟨by (with_reducible repeat (first | refine blk_drewN ?_ _ | refine blk_drew ?_ | refine blk_alloc ?_ _)); exact BK231.out⟩, ⟨by repeat (first | (with_reducible first | exact HB.out | apply below_alloc | apply pw_below_drewN | apply below_drew1 | refine below_set ?_ GE231.out) | exact HB.out)⟩⟩
                            · rw [if_neg c23] at H
                              exact absurd H (by simp)
                          · rw [if_neg c22] at H
                            exact absurd H (by simp)
                        · rw [if_neg c21] at H
                          have c21b0 : decide (x28_3 < (t233.length : Int)) = false := decide_eq_false c21
                          clear c21
                          by_cases c26 : x8_3 = true
                          · subst c26
                            have H1 : (if x4_2.length < 8796093022208 then (if x3_2.length < 8796093022208 then (impl_startOrder.l0 k3 l0 (x3_2 ++ [((rd_T55 l0 x16_2).f0)]) (x4_2 ++ [((rd_T55 l0 x16_2).f0)]) true) else (none)) else (none)) = some r := by rw [if_pos rfl] at H; exact H
                            clear H
                            have H := H1
                            clear H1
                            by_cases c27 : x4_2.length < 8796093022208
                            · rw [if_pos c27] at H
                              have LMc27 := Aside0.mk c27
                              clear c27
                              obtain ⟨y238, hy238⟩ : ∃ y_ : List ByteArray, y_ = (x4_2 ++ [((rd_T55 l0 x16_2).f0)]) := ⟨_, rfl⟩
                              replace H : (if x3_2.length < 8796093022208 then (impl_startOrder.l0 k3 l0 (x3_2 ++ [((rd_T55 l0 x16_2).f0)]) y238 true) else (none)) = some r := by first | (rw [hy238]; with_reducible exact H) | (have H2_ := (Option.bind_some _ _).symm.trans H; rw [hy238]; with_reducible exact H2_) | (have H2_ := (Option.bind_some _ _).symm.trans H; with_reducible exact H2_) | with_reducible exact H | (rw [hy238]; exact H) | exact H
                              have Ny238 := Aside0.mk hy238
                              clear hy238
                              by_cases c28 : x3_2.length < 8796093022208
                              · rw [if_pos c28] at H
                                have LMc28 := Aside0.mk c28
                                clear c28
                                obtain ⟨y241, hy241⟩ : ∃ y_ : List ByteArray, y_ = (x3_2 ++ [((rd_T55 l0 x16_2).f0)]) := ⟨_, rfl⟩
                                replace H : (impl_startOrder.l0 k3 l0 y241 y238 true) = some r := by first | (rw [hy241]; with_reducible exact H) | (have H2_ := (Option.bind_some _ _).symm.trans H; rw [hy241]; with_reducible exact H2_) | (have H2_ := (Option.bind_some _ _).symm.trans H; with_reducible exact H2_) | with_reducible exact H | (rw [hy241]; exact H) | exact H
                                have Ny241 := Aside0.mk hy241
                                clear hy241
                                have H' := Aside0.mk H
                                clear H
                                have hcz29_0 : wr.cell? ⟨gb231, 0, none⟩ = some (.string ((rd_T55 l0 x16_2).f0)) := (blk_cell BK231.out 0).trans rfl
                                have hcz29_1 : wr.cell? ⟨gb231, 1, none⟩ = some (.slice A230_1 ((rd_T55 l0 x16_2).f1).length c230_1) := (blk_cell BK231.out 1).trans rfl
                                have hcz29_2 : wr.cell? ⟨gb231, 2, none⟩ = some (.slice A230_2 ((rd_T55 l0 x16_2).f2).length c230_2) := (blk_cell BK231.out 2).trans rfl
                                have hcz29_3 : wr.cell? ⟨gb231, 3, none⟩ = some (.string ((rd_T55 l0 x16_2).f3)) := (blk_cell BK231.out 3).trans rfl
                                have hcz29_4 : wr.cell? ⟨gb231, 4, none⟩ = some (.bool ((rd_T55 l0 x16_2).f4)) := (blk_cell BK231.out 4).trans rfl
                                have hfz29_0 := blk_frozen BK231.out 0
                                have hfz29_1 := blk_frozen BK231.out 1
                                have hfz29_2 := blk_frozen BK231.out 2
                                have hfz29_3 := blk_frozen BK231.out 3
                                have hfz29_4 := blk_frozen BK231.out 4
                                go_wp2_with (first | (at_mapUpdate; (try (refine gate_guard (by rfl) ?_; dsimp only)); refine wpList_mapUpdate_MS (setTy_impl_startOrder) (w0 := w) _ (b := w.heap.size) (S := x4_2) (s := ((rd_T55 l0 x16_2).f0)) rfl _ _ _ rfl rfl rfl rfl ?aO (sz_nameS HZ0.out x16_2) ?aB ?aL ?_; (case aO => exact (by (with_reducible repeat (first | apply MS_alloc | apply MS_drewN | apply MS_drew)); exact HO_4.out)); (case aB => exact (by repeat (first | (with_reducible first | exact HB.out | apply below_alloc | apply pw_below_drewN | apply below_drew1 | refine below_set ?_ GE231.out) | exact HB.out))); (case aL => exact LMc27.out); intro w30 ho hb hg hat; rw [← Ny238.out] at ho; have n0_ := Aside0.mk (R_beside (ok := (fun k_ => some k_ ≠ (.slice Ao20 t233.length co20 : Value).ownBlock)) (by (with_reducible repeat (first | apply Kd.R_alloc | apply Kd.R_drewN | apply Kd.R_drew)); exact Kd.R_mono HO_3.out (fun _ hk => ⟨hk.2, hk.1⟩)) hat); have n1_ := Aside0.mk (R_beside (ok := (fun k_ => some k_ ≠ (u3 : Value).ownBlock)) (by (with_reducible repeat (first | apply Kd.R_alloc | apply Kd.R_drewN | apply Kd.R_drew)); exact HO_26.out) hat); have n2_ := Aside0.mk (hg gb231 _ _ (by (with_reducible repeat (first | refine blk_drewN ?_ _ | refine blk_drew ?_ | refine blk_alloc ?_ _)); exact BK231.out)); have n3_ := Aside0.mk (hb); have n4_ := Aside0.mk (ho); clear HO_3; clear HO_26; clear BK231; clear HB; clear HO_4; have HO_3 := n0_; have HO_26 := n1_; have BK231 := n2_; have HB := n3_; have HO240 := n4_; clear n0_ n1_ n2_ n3_ n4_; clear ho hb hg hat; have hcz31_0 : w30.cell? ⟨gb231, 0, none⟩ = some (.string ((rd_T55 l0 x16_2).f0)) := (blk_cell BK231.out 0).trans rfl; have hcz31_1 : w30.cell? ⟨gb231, 1, none⟩ = some (.slice A230_1 ((rd_T55 l0 x16_2).f1).length c230_1) := (blk_cell BK231.out 1).trans rfl; have hcz31_2 : w30.cell? ⟨gb231, 2, none⟩ = some (.slice A230_2 ((rd_T55 l0 x16_2).f2).length c230_2) := (blk_cell BK231.out 2).trans rfl; have hcz31_3 : w30.cell? ⟨gb231, 3, none⟩ = some (.string ((rd_T55 l0 x16_2).f3)) := (blk_cell BK231.out 3).trans rfl; have hcz31_4 : w30.cell? ⟨gb231, 4, none⟩ = some (.bool ((rd_T55 l0 x16_2).f4)) := (blk_cell BK231.out 4).trans rfl; have hfz31_0 := blk_frozen BK231.out 0; have hfz31_1 := blk_frozen BK231.out 1; have hfz31_2 := blk_frozen BK231.out 2; have hfz31_3 := blk_frozen BK231.out 3; have hfz31_4 := blk_frozen BK231.out 4) | ((with_reducible refine gate_builtin (b := .append) (xs := #[.tmp 43, .tmp 46]) rfl ?_); at_builtin; refine Kd.R_append Kd.string (w0 := w) w.heap.size rfl (.tmp 43) (.tmp 46) 29 9 (.string ⟨#[]⟩) 16 rfl Try.underlying29 info9 rfl (by decide) (by omega) u3 x3_2 ((rd_T55 l0 x16_2).f0) [.string ((rd_T55 l0 x16_2).f0)] (fun k_ => some k_ ≠ (.slice Ao20 t233.length co20 : Value).ownBlock ∧ some k_ ≠ (v228 : Value).ownBlock) (fun _ => False) rfl rfl ?aP (fun _ hk => hk.elim) ?aF ?aO ?aB ?aS ?aL ?_; (case aP => exact rfl); (case aB => exact (by repeat (first | (with_reducible first | exact HB.out | apply below_alloc | apply pw_below_drewN | apply below_drew1 | refine below_set ?_ GE231.out) | exact HB.out))); (case aF => exact (fun k_ hk => ⟨Kd.fresh' (Kd.R_lt (by (with_reducible repeat (first | apply Kd.R_alloc | apply Kd.R_drewN | apply Kd.R_drew)); exact HO_26.out)) k_ hk, Kd.fresh' (MS_lt (by (with_reducible repeat (first | apply MS_alloc | apply MS_drewN | apply MS_drew)); exact HO240.out)) k_ hk⟩)); (case aO => exact (by (with_reducible repeat (first | apply Kd.R_alloc | apply Kd.R_drewN | apply Kd.R_drew)); exact HO_3.out)); (case aS => exact (below_size (by repeat (first | (with_reducible first | exact HB.out | apply below_alloc | apply pw_below_drewN | apply below_drew1 | refine below_set ?_ GE231.out) | exact HB.out)))); (case aL => have := LMc28.out; omega); intro v242 w32 ho hb hg hat; rw [← Ny241.out] at ho; have n0_ := Aside0.mk (Kd.R_after (ok := (fun k_ => some k_ ≠ (v228 : Value).ownBlock)) (by (with_reducible repeat (first | apply Kd.R_alloc | apply Kd.R_drewN | apply Kd.R_drew)); exact Kd.R_mono HO_26.out (fun _ hk => ⟨hk.2, hk.1⟩)) hg hat); have n1_ := Aside0.mk (blk_grown (g := gb231) (o := .cells #[.string ((rd_T55 l0 x16_2).f0), .slice A230_1 ((rd_T55 l0 x16_2).f1).length c230_1, .slice A230_2 ((rd_T55 l0 x16_2).f2).length c230_2, .string ((rd_T55 l0 x16_2).f3), .bool ((rd_T55 l0 x16_2).f4)] 55 (0, 0)) (by (with_reducible repeat (first | refine blk_drewN ?_ _ | refine blk_drew ?_ | refine blk_alloc ?_ _)); exact BK231.out) hg (Kd.R_ne HO_3.out BK231.out (by decide))); have n2_ := Aside0.mk (MS_after (by (with_reducible repeat (first | apply MS_alloc | apply MS_drewN | apply MS_drew)); exact HO240.out) (by (with_reducible repeat (first | apply Kd.R_alloc | apply Kd.R_drewN | apply Kd.R_drew)); exact HO_3.out) hg); have n3_ := Aside0.mk (hb); have n4_ := Aside0.mk (ho); clear HO_26; clear BK231; clear HO240; clear HB; clear HO_3; have HO_26 := n0_; have BK231 := n1_; have HO240 := n2_; have HB := n3_; have HO243 := n4_; clear n0_ n1_ n2_ n3_ n4_; clear ho hb hg hat))
                                go_roundg k3
                                case measure => have := HK1.out; have := HK2.out; have := HK3.out; omega
                                case rel => exact ⟨(y241), (y238), (true), (by first | rfl | (simp; done) | (simp [*]; done)), H', ⟨by have := HK1.out; have := HK2.out; have := HK3.out; omega⟩, ⟨by (with_reducible repeat (first | apply Kd.R_alloc | apply Kd.R_drewN | apply Kd.R_drew)); exact Kd.R_mono HO243.out (fun _ hk => hk.2)⟩, ⟨by (with_reducible repeat (first | apply MS_alloc | apply MS_drewN | apply MS_drew)); exact HO240.out⟩, ⟨by repeat (first | (with_reducible first | exact HB.out | apply below_alloc | apply pw_below_drewN | apply below_drew1 | refine below_set ?_ GE231.out) | exact HB.out)⟩⟩
                              · rw [if_neg c28] at H
                                exact absurd H (by simp)
                            · rw [if_neg c27] at H
                              exact absurd H (by simp)
                          · replace c26 := Bool.eq_false_iff.mpr c26
                            subst c26
                            have H1 : (impl_startOrder.l1 k3 l0 x3_2 x4_2 x5_2 l0 (l0.length : Int) (wrap64 (x16_2 + 1))) = some r := by rw [if_neg (show ¬ (false = true) by decide)] at H; exact H
                            clear H
                            have H := H1
                            clear H1
                            have H' := Aside0.mk H
                            clear H
                            go_wp2
                            go_roundg k3
                            case measure => have := HK1.out; have := HK2.out; have := HK3.out; omega
                            case rel => exact ⟨(x3_2), (x4_2), (x5_2), (wrap64 (x16_2 + 1)), (by first | rfl | (simp; done) | (simp [*]; done)), (by first | rfl | (simp; done) | (simp [*]; done)), H', ⟨by have := HK1.out; have := HK2.out; have := HK3.out; omega⟩, ⟨by (with_reducible repeat (first | apply Kd.R_alloc | apply Kd.R_drewN | apply Kd.R_drew)); exact Kd.R_mono HO_3.out (fun _ hk => hk.1)⟩, ⟨by (with_reducible repeat (first | apply MS_alloc | apply MS_drewN | apply MS_drew)); exact HO_4.out⟩, ⟨by repeat (first | (with_reducible first | exact HB.out | apply below_alloc | apply pw_below_drewN | apply below_drew1 | refine below_set ?_ GE231.out) | exact HB.out)⟩⟩
                · rw [if_neg c9] at H
                  exact absurd H (by simp)
              · rw [if_neg c8] at H
                exact absurd H (by simp)
            · rw [if_neg c7] at H
              have c7b0 : decide (x16_2 < (l0.length : Int)) = false := decide_eq_false c7
              clear c7
              have H' := Aside0.mk H
              clear H
              go_wp2
              go_roundg k2
              case measure => have := HK1.out; have := HK2.out; omega
              case rel => exact ⟨(x3_2), (x4_2), (x5_2), (by first | rfl | (simp; done) | (simp [*]; done)), H', ⟨by have := HK1.out; have := HK2.out; omega⟩, ⟨by (with_reducible repeat (first | apply Kd.R_alloc | apply Kd.R_drewN | apply Kd.R_drew)); exact HO_3.out⟩, ⟨by (with_reducible repeat (first | apply MS_alloc | apply MS_drewN | apply MS_drew)); exact HO_4.out⟩, ⟨by repeat (first | (with_reducible first | exact HB.out | apply below_alloc | apply pw_below_drewN | apply below_drew1) | exact HB.out)⟩⟩
      · replace c6 := Bool.eq_false_iff.mpr c6
        subst c6
        have H1 : (some x3_1) = some r := by rw [if_neg (show ¬ (false = true) by decide)] at H; exact H
        clear H
        have H := H1
        clear H1
        obtain rfl := Option.some.inj H
        go_wp2
        go_ret
        exact ⟨_, by first | rfl | (simp [errW_none, errW_some] <;> rfl) | (simp [*, errW_none, errW_some] <;> rfl), by (with_reducible repeat (first | apply Kd.R_alloc | apply Kd.R_drewN | apply Kd.R_drew)); exact Kd.R_mono HO_3.out (fun _ hk => trivial), by repeat (first | (with_reducible first | exact HB.out | apply below_alloc | apply pw_below_drewN | apply below_drew1) | exact HB.out)⟩

/-! ### impl_StartOrder: function 32 -/
def impl_StartOrder.f (k : Nat) (l0 : List (S55)) : Option (List ByteArray × Bool) := (impl_UnitsOk.f k l0).bind fun t223 => (if t223 = true then ((impl_startOrder.f k l0).bind fun t224 => (some (t224, ((t224.length : Int) == (l0.length : Int))))) else (some (([] : List ByteArray), false)))
theorem impl_StartOrder.mono : ∀ a0 k, LeO (impl_StartOrder.f k a0) (impl_StartOrder.f (k + 1) a0) := by
  intro a0 k
  unfold impl_StartOrder.f
  repeat' first
      | (with_reducible exact impl_UnitsOk.mono _ _)
      | (with_reducible exact impl_startOrder.mono _ _)
      | (with_reducible exact LeO.refl _)
      | (with_reducible exact LeO.none _)
      | (with_reducible refine LeO.ite ?_ ?_)
      | (with_reducible refine LeO.bind ?_ (fun _ => ?_))
      | exact impl_UnitsOk.mono _ _
      | exact impl_startOrder.mono _ _
      | exact LeO.none _
      | refine LeO.ite ?_ ?_
      | refine LeO.bind ?_ (fun _ => ?_)
set_option maxHeartbeats 8000000 in
set_option maxRecDepth 100000 in
theorem impl_StartOrder.calls (k : Nat) (A0 : Option Addr) (c0 : Nat) (l0 : List (S55)) (r1 : List ByteArray) (r2 : Bool) (w : World) (hr0 : Kd.C k55 w A0 l0.length l0) (hc0 : l0.length ≤ c0) (h : impl_StartOrder.f k l0 = some (r1, r2)) :
    Calls Try.prog 32 #[.slice A0 l0.length c0] w fun e w' => ∃ v0_ : Value, e = .returned (.tuple #[v0_, .bool r2]) ∧ Kd.R Kd.string 9 w' w.heap.size (fun _ => True) v0_ r1 ∧ Below w.heap.size w w' := by
  have HR0 := Aside0.mk hr0
  have HC0 := Aside0.mk hc0
  clear hr0 hc0
  have HB := Aside0.mk (Below.refl w.heap.size w)
  have H : ((impl_UnitsOk.f k l0).bind fun t223 => (if t223 = true then ((impl_startOrder.f k l0).bind fun t224 => (some (t224, ((t224.length : Int) == (l0.length : Int))))) else (some (([] : List ByteArray), false)))) = some (r1, r2) := h
  clear h
  replace H := Option.bind_eq_some_iff.mp H
  obtain ⟨t223, A20, H⟩ := H
  replace H : (if t223 = true then ((impl_startOrder.f k l0).bind fun t224 => (some (t224, ((t224.length : Int) == (l0.length : Int))))) else (some (([] : List ByteArray), false))) = some (r1, r2) := H
  have A2 := Aside0.mk A20
  clear A20
  by_cases c3 : t223 = true
  · subst c3
    have H1 : ((impl_startOrder.f k l0).bind fun t224 => (some (t224, ((t224.length : Int) == (l0.length : Int))))) = some (r1, r2) := by rw [if_pos rfl] at H; exact H
    clear H
    have H := H1
    clear H1
    replace H := Option.bind_eq_some_iff.mp H
    obtain ⟨t224, A40, H⟩ := H
    replace H : (some (t224, ((t224.length : Int) == (l0.length : Int)))) = some (r1, r2) := H
    have A4 := Aside0.mk A40
    clear A40
    simp only [Option.some.injEq, Prod.mk.injEq] at H
    obtain ⟨rfl, rfl⟩ := H
    go_enter Try.func32, Try.ntmps32
    go_wp2_with (first | ((with_reducible refine gate_callee (f := 15) rfl ?_); refine goesL_ (some 6) rfl rfl Try.func15 (by kernel_rfl) rfl #[.slice A0 l0.length c0] rfl (by (try simp only [List.map_toArray, List.map_cons, List.map_nil]); first | done | rfl | (simp only [List.length_drop, List.length_take]; rfl)) ?_; (with_reducible refine (impl_UnitsOk.calls k _ _ l0 true _ ?side1 ?side2 A2.out).mono ?_); (case side1 => repeat (first | exact HR0.out | (with_reducible refine Kd.C_alloc ?_ _) | (with_reducible refine Kd.C_drewN ?_ _) | (with_reducible refine Kd.C_drew ?_))); (case side2 => exact HC0.out); rintro e w5 ⟨rfl, hb⟩; refine ⟨_, rfl, ?_⟩; have n0_ := Aside0.mk (below_step (by repeat (first | (with_reducible first | exact HB.out | apply below_alloc | apply pw_below_drewN | apply below_drew1) | exact HB.out)) hb); clear HB; have HB := n0_; clear n0_; (try clear hb); (try clear hb2); (try clear hk); (try clear hi)) | ((with_reducible refine gate_callee (f := 64) rfl ?_); refine goesL_ (some 9) rfl rfl Try.func64 (by kernel_rfl) rfl #[.slice A0 l0.length c0] rfl (by (try simp only [List.map_toArray, List.map_cons, List.map_nil]); first | done | rfl | (simp only [List.length_drop, List.length_take]; rfl)) ?_; (with_reducible refine (impl_startOrder.calls k _ _ l0 t224 _ ?side1 ?side2 A4.out).mono ?_); (case side1 => repeat (first | exact (Kd.C_below HR0.out HB.out) | (with_reducible refine Kd.C_alloc ?_ _) | (with_reducible refine Kd.C_drewN ?_ _) | (with_reducible refine Kd.C_drew ?_))); (case side2 => exact HC0.out); rintro e w6 ⟨v225, rfl, ho0, hb⟩; refine ⟨_, rfl, ?_⟩; have n0_ := Aside0.mk (Kd.R_lower ho0 (below_size (by repeat (first | (with_reducible first | exact HB.out | apply below_alloc | apply pw_below_drewN | apply below_drew1) | exact HB.out)))); have n1_ := Aside0.mk (below_step (by repeat (first | (with_reducible first | exact HB.out | apply below_alloc | apply pw_below_drewN | apply below_drew1) | exact HB.out)) hb); clear HB; have HO226 := n0_; have HB := n1_; clear n0_ n1_; (try clear hb); (try clear hb2); (try clear hk); (try clear hi); (try clear ho0); obtain ⟨Ao7, co7, eo7⟩ := Kd.R_slice HO226.out; subst eo7))
    go_ret2
    exact ⟨_, by first | rfl | (simp [errW_none, errW_some] <;> rfl) | (simp [*, errW_none, errW_some] <;> rfl), by (with_reducible repeat (first | apply Kd.R_alloc | apply Kd.R_drewN | apply Kd.R_drew)); exact HO226.out, by repeat (first | (with_reducible first | exact HB.out | apply below_alloc | apply pw_below_drewN | apply below_drew1) | exact HB.out)⟩
  · replace c3 := Bool.eq_false_iff.mpr c3
    subst c3
    have H1 : (some (([] : List ByteArray), false)) = some (r1, r2) := by rw [if_neg (show ¬ (false = true) by decide)] at H; exact H
    clear H
    have H := H1
    clear H1
    simp only [Option.some.injEq, Prod.mk.injEq] at H
    obtain ⟨rfl, rfl⟩ := H
    go_enter Try.func32, Try.ntmps32
    go_wp2_with (first | ((with_reducible refine gate_callee (f := 15) rfl ?_); refine goesL_ (some 6) rfl rfl Try.func15 (by kernel_rfl) rfl #[.slice A0 l0.length c0] rfl (by (try simp only [List.map_toArray, List.map_cons, List.map_nil]); first | done | rfl | (simp only [List.length_drop, List.length_take]; rfl)) ?_; (with_reducible refine (impl_UnitsOk.calls k _ _ l0 false _ ?side1 ?side2 A2.out).mono ?_); (case side1 => repeat (first | exact HR0.out | (with_reducible refine Kd.C_alloc ?_ _) | (with_reducible refine Kd.C_drewN ?_ _) | (with_reducible refine Kd.C_drew ?_))); (case side2 => exact HC0.out); rintro e w8 ⟨rfl, hb⟩; refine ⟨_, rfl, ?_⟩; have n0_ := Aside0.mk (below_step (by repeat (first | (with_reducible first | exact HB.out | apply below_alloc | apply pw_below_drewN | apply below_drew1) | exact HB.out)) hb); clear HB; have HB := n0_; clear n0_; (try clear hb); (try clear hb2); (try clear hk); (try clear hi)))
    go_ret2
    exact ⟨_, by first | rfl | (simp [errW_none, errW_some] <;> rfl) | (simp [*, errW_none, errW_some] <;> rfl), by first | exact Kd.R_nil _ _ _ _ _ | exact Kd.N_nil _ _ _ _ _ | exact Kd.V_nil _ _ _ _ _ | exact Kd.Q_nil _ _ _ _ _ | exact Kd.S_nil _ _ _ _ _, by repeat (first | (with_reducible first | exact HB.out | apply below_alloc | apply pw_below_drewN | apply below_drew1) | exact HB.out)⟩

/-! ### laws_FnExactStartOrder: function 6 -/
def laws_FnExactStartOrder.f (k : Nat) (l0 : List (S65)) : Option Bool := (laws_szUnitS.f k l0 1048576).bind fun t0 => (if t0 < 0 then some true else ((laws_toUnitS.f k l0).bind fun a0 => ((spec_StartOrder.f k a0).bind fun ⟨w0, w1⟩ => ((laws_toUnitS.f k l0).bind fun x0 => ((impl_StartOrder.f k x0).bind fun ⟨g0, g1⟩ => ((laws_eqStringS.f k g0 w0).bind fun t1 => (if t1 = true then (if g1 = w1 then ((laws_toUnitS.f k l0).bind fun b0 => ((laws_eqUnitS.f k x0 b0).bind fun t2 => (if t2 = true then ((laws_markUnitS.f k x0 1).bind fun k1 => (if k1 < 0 then none else ((laws_eqStringS.f k g0 w0).bind fun s1 => (if s1 = true then ((laws_markStringS.f k g0 1).bind fun ⟨m1, e0⟩ => ((laws_heldStringS.f k e0 1).bind fun q1 => (if q1 < 0 then none else (if m1 = q1 then ((laws_toUnitS.f k l0).bind fun c0 => ((impl_StartOrder.f k c0).bind fun ⟨h0, h1⟩ => ((laws_eqStringS.f k h0 w0).bind fun s2 => (if s2 = true then (if g1 = h1 then ((laws_heldStringS.f k e0 1).bind fun q2 => (if m1 = q2 then (some true) else none)) else none) else none)))) else none)))) else none)))) else none))) else none) else none)))))))
set_option maxHeartbeats 8000000 in
set_option maxRecDepth 100000 in
theorem laws_FnExactStartOrder.calls (k : Nat) (Al0 : Option Addr) (cl0 : Nat) (l0 : List (S65)) (r : Bool) (w : World) (hrl0 : Kd.C k65 w Al0 l0.length l0) (hcl0 : l0.length ≤ cl0) (h : laws_FnExactStartOrder.f k l0 = some r) :
    Calls Try.prog 6 #[.slice Al0 l0.length cl0] w fun e w' => e = .returned (.bool r) ∧ Below w.heap.size w w' := by
  have HR_l0 := Aside0.mk hrl0
  have HC_l0 := Aside0.mk hcl0
  clear hrl0 hcl0
  have HB := Aside0.mk (Below.refl w.heap.size w)
  unfold laws_FnExactStartOrder.f at h
  replace h := Option.bind_eq_some_iff.mp h
  obtain ⟨t0, EE, h⟩ := h
  have E0 := Aside0.mk EE
  clear EE
  try dsimp only at h
  by_cases C1 : t0 < 0
  · rw [if_pos C1] at h
    have C1a : decide (t0 < 0) = true := decide_eq_true C1
    clear C1
    obtain rfl := Option.some.inj h
    clear h
    go_enter Try.func6, Try.ntmps6
    go_wp2_with (first | (go_at_call 12; (with_reducible refine (laws_szUnitS.calls (hr0 := (Kd.C_below HR_l0.out (by repeat (first | (with_reducible first | exact HB.out | apply below_alloc | apply pw_below_drewN | apply below_drew1) | exact HB.out)))) (hc0 := HC_l0.out) (h := E0.out)).mono ?_); rintro e w1 ⟨rfl, hd⟩; (first | have hb := below_of hd | have hb := hd); clear hd; have Z1 := Aside0.mk (show w.heap.size ≤ w1.heap.size from hb.size); have HB' := Aside0.mk (below_step (by repeat (first | (with_reducible first | exact HB.out | apply below_alloc | apply pw_below_drewN | apply below_drew1) | exact HB.out)) hb); clear HB; have HB := HB'; clear HB'; clear E0))
    go_ret
    exact ⟨rfl, by repeat (first | (with_reducible first | exact HB.out | apply below_alloc | apply pw_below_drewN | apply below_drew1) | exact HB.out)⟩
  rw [if_neg C1] at h
  have C1a : decide (t0 < 0) = false := decide_eq_false C1
  clear C1
  replace h := Option.bind_eq_some_iff.mp h
  obtain ⟨a0, EE, h⟩ := h
  have E2 := Aside0.mk EE
  clear EE
  try dsimp only at h
  replace h := Option.bind_eq_some_iff.mp h
  obtain ⟨⟨w0, w1⟩, EE, h⟩ := h
  have E3 := Aside0.mk EE
  clear EE
  try dsimp only at h
  replace h := Option.bind_eq_some_iff.mp h
  obtain ⟨x0, EE, h⟩ := h
  have E4 := Aside0.mk EE
  clear EE
  try dsimp only at h
  replace h := Option.bind_eq_some_iff.mp h
  obtain ⟨⟨g0, g1⟩, EE, h⟩ := h
  have E5 := Aside0.mk EE
  clear EE
  try dsimp only at h
  replace h := Option.bind_eq_some_iff.mp h
  obtain ⟨t1, EE, h⟩ := h
  have E6 := Aside0.mk EE
  clear EE
  try dsimp only at h
  by_cases C7 : ¬ (t1 = true)
  · rw [if_neg C7] at h; exact absurd h (by simp)
  replace C7 := Classical.not_not.mp C7
  rw [if_pos C7] at h
  subst C7
  by_cases C8 : ¬ (g1 = w1)
  · rw [if_neg C8] at h; exact absurd h (by simp)
  replace C8 := Classical.not_not.mp C8
  rw [if_pos C8] at h
  subst C8
  have C8a : (g1 != g1) = false := by simp
  have C8b : (g1 == g1) = true := by simp
  replace h := Option.bind_eq_some_iff.mp h
  obtain ⟨b0, EE, h⟩ := h
  have E9 := Aside0.mk EE
  clear EE
  try dsimp only at h
  replace h := Option.bind_eq_some_iff.mp h
  obtain ⟨t2, EE, h⟩ := h
  have E10 := Aside0.mk EE
  clear EE
  try dsimp only at h
  by_cases C11 : ¬ (t2 = true)
  · rw [if_neg C11] at h; exact absurd h (by simp)
  replace C11 := Classical.not_not.mp C11
  rw [if_pos C11] at h
  subst C11
  replace h := Option.bind_eq_some_iff.mp h
  obtain ⟨k1, EE, h⟩ := h
  have E12 := Aside0.mk EE
  clear EE
  try dsimp only at h
  by_cases C13 : k1 < 0
  · rw [if_pos C13] at h; exact absurd h (by simp)
  rw [if_neg C13] at h
  have C13a : decide (k1 < 0) = false := decide_eq_false C13
  clear C13
  replace h := Option.bind_eq_some_iff.mp h
  obtain ⟨s1, EE, h⟩ := h
  have E14 := Aside0.mk EE
  clear EE
  try dsimp only at h
  by_cases C15 : ¬ (s1 = true)
  · rw [if_neg C15] at h; exact absurd h (by simp)
  replace C15 := Classical.not_not.mp C15
  rw [if_pos C15] at h
  subst C15
  replace h := Option.bind_eq_some_iff.mp h
  obtain ⟨⟨m1, e0⟩, EE, h⟩ := h
  have E16 := Aside0.mk EE
  clear EE
  try dsimp only at h
  replace h := Option.bind_eq_some_iff.mp h
  obtain ⟨q1, EE, h⟩ := h
  have E17 := Aside0.mk EE
  clear EE
  try dsimp only at h
  by_cases C18 : q1 < 0
  · rw [if_pos C18] at h; exact absurd h (by simp)
  rw [if_neg C18] at h
  have C18a : decide (q1 < 0) = false := decide_eq_false C18
  clear C18
  by_cases C19 : ¬ (m1 = q1)
  · rw [if_neg C19] at h; exact absurd h (by simp)
  replace C19 := Classical.not_not.mp C19
  rw [if_pos C19] at h
  subst C19
  have C19a : (m1 != m1) = false := by simp
  have C19b : (m1 == m1) = true := by simp
  replace h := Option.bind_eq_some_iff.mp h
  obtain ⟨c0, EE, h⟩ := h
  have E20 := Aside0.mk EE
  clear EE
  try dsimp only at h
  replace h := Option.bind_eq_some_iff.mp h
  obtain ⟨⟨h0, h1⟩, EE, h⟩ := h
  have E21 := Aside0.mk EE
  clear EE
  try dsimp only at h
  replace h := Option.bind_eq_some_iff.mp h
  obtain ⟨s2, EE, h⟩ := h
  have E22 := Aside0.mk EE
  clear EE
  try dsimp only at h
  by_cases C23 : ¬ (s2 = true)
  · rw [if_neg C23] at h; exact absurd h (by simp)
  replace C23 := Classical.not_not.mp C23
  rw [if_pos C23] at h
  subst C23
  by_cases C24 : ¬ (g1 = h1)
  · rw [if_neg C24] at h; exact absurd h (by simp)
  replace C24 := Classical.not_not.mp C24
  rw [if_pos C24] at h
  subst C24
  have C24a : (g1 != g1) = false := by simp
  have C24b : (g1 == g1) = true := by simp
  replace h := Option.bind_eq_some_iff.mp h
  obtain ⟨q2, EE, h⟩ := h
  have E25 := Aside0.mk EE
  clear EE
  try dsimp only at h
  by_cases C26 : ¬ (m1 = q2)
  · rw [if_neg C26] at h; exact absurd h (by simp)
  replace C26 := Classical.not_not.mp C26
  rw [if_pos C26] at h
  subst C26
  have C26a : (m1 != m1) = false := by simp
  have C26b : (m1 == m1) = true := by simp
  obtain rfl := Option.some.inj h
  clear h
  go_enter Try.func6, Try.ntmps6
  go_wp2_with (first | (go_at_call 12; (with_reducible refine (laws_szUnitS.calls (hr0 := (Kd.C_below HR_l0.out (by repeat (first | (with_reducible first | exact HB.out | apply below_alloc | apply pw_below_drewN | apply below_drew1) | exact HB.out)))) (hc0 := HC_l0.out) (h := E0.out)).mono ?_); rintro e w1 ⟨rfl, hd⟩; (first | have hb := below_of hd | have hb := hd); clear hd; have Z1 := Aside0.mk (show w.heap.size ≤ w1.heap.size from hb.size); have HB' := Aside0.mk (below_step (by repeat (first | (with_reducible first | exact HB.out | apply below_alloc | apply pw_below_drewN | apply below_drew1) | exact HB.out)) hb); clear HB; have HB := HB'; clear HB'; clear E0) | (go_at_call 14; (with_reducible refine (laws_toUnitS.calls (hr0 := (Kd.C_below HR_l0.out (by repeat (first | (with_reducible first | exact HB.out | apply below_alloc | apply pw_below_drewN | apply below_drew1) | exact HB.out)))) (hc0 := HC_l0.out) (h := E2.out)).mono ?_); rintro e w2 ⟨v0_, rfl, ho0, hb⟩; have H_a0 := Aside0.mk (show Kd.S _ _ w2 w.heap.size (fun k_ => w1.heap.size ≤ k_ ∧ k_ < w2.heap.size) v0_ a0 from Kd.S_mono (Kd.S_lower (Kd.S_bound ho0) HB.out.size) (fun k_ hk_ => ⟨hk_.2.1, hk_.2.2.1⟩)); obtain ⟨A_a0, c_a0, e_a0⟩ := Kd.S_slice ho0; subst e_a0; clear ho0; have Z2 := Aside0.mk (show w1.heap.size ≤ w2.heap.size from hb.size); have HB' := Aside0.mk (below_step (by repeat (first | (with_reducible first | exact HB.out | apply below_alloc | apply pw_below_drewN | apply below_drew1) | exact HB.out)) hb); clear HB; have HB := HB'; clear HB'; clear E2) | (go_at_call 31; (with_reducible refine (spec_StartOrder.calls (hr0 := (Kd.S_reads' (by first | exact H_a0.out | exact Kd.S_drewN H_a0.out _)).2.2) (hc0 := (Kd.S_reads' H_a0.out).2.1) (h := E3.out)).mono ?_); rintro e w3 ⟨v0_, rfl, ho0, hb⟩; have H_a0' := Aside0.mk (Kd.S_below (by first | exact H_a0.out | exact Kd.S_drewN H_a0.out _) hb); have H_w0 := Aside0.mk (show Kd.R _ _ w3 w.heap.size (fun k_ => w2.heap.size ≤ k_ ∧ k_ < w3.heap.size) v0_ w0 from Kd.R_mono (Kd.R_lower (Kd.R_bound ho0) HB.out.size) (fun k_ hk_ => ⟨hk_.2.1, hk_.2.2.1⟩)); obtain ⟨A_w0, c_w0, e_w0⟩ := Kd.R_slice ho0; subst e_w0; clear ho0; have Z3 := Aside0.mk (show w2.heap.size ≤ w3.heap.size from hb.size); have HB' := Aside0.mk (below_step (by repeat (first | (with_reducible first | exact HB.out | apply below_alloc | apply pw_below_drewN | apply below_drew1) | exact HB.out)) hb); clear HB; have HB := HB'; clear HB'; clear H_a0; have H_a0 := H_a0'; clear H_a0'; clear H_a0; clear E3) | (go_at_call 14; (with_reducible refine (laws_toUnitS.calls (hr0 := (Kd.C_below HR_l0.out (by repeat (first | (with_reducible first | exact HB.out | apply below_alloc | apply pw_below_drewN | apply below_drew1) | exact HB.out)))) (hc0 := HC_l0.out) (h := E4.out)).mono ?_); rintro e w4 ⟨v0_, rfl, ho0, hb⟩; have H_w0' := Aside0.mk (Kd.R_below (by first | exact H_w0.out | exact Kd.R_drewN H_w0.out _) hb); have H_x0 := Aside0.mk (show Kd.S _ _ w4 w.heap.size (fun k_ => w3.heap.size ≤ k_ ∧ k_ < w4.heap.size) v0_ x0 from Kd.S_mono (Kd.S_lower (Kd.S_bound ho0) HB.out.size) (fun k_ hk_ => ⟨hk_.2.1, hk_.2.2.1⟩)); obtain ⟨A_x0, c_x0, e_x0⟩ := Kd.S_slice ho0; subst e_x0; clear ho0; have Z4 := Aside0.mk (show w3.heap.size ≤ w4.heap.size from hb.size); have HB' := Aside0.mk (below_step (by repeat (first | (with_reducible first | exact HB.out | apply below_alloc | apply pw_below_drewN | apply below_drew1) | exact HB.out)) hb); clear HB; have HB := HB'; clear HB'; clear H_w0; have H_w0 := H_w0'; clear H_w0'; clear E4) | (go_at_call 32; (with_reducible refine (impl_StartOrder.calls (hr0 := (Kd.S_reads' (by first | exact H_x0.out | exact Kd.S_drewN H_x0.out _)).2.2) (hc0 := (Kd.S_reads' H_x0.out).2.1) (h := E5.out)).mono ?_); rintro e w5 ⟨v0_, rfl, ho0, hb⟩; have H_w0' := Aside0.mk (Kd.R_below (by first | exact H_w0.out | exact Kd.R_drewN H_w0.out _) hb); have H_x0' := Aside0.mk (Kd.S_below (by first | exact H_x0.out | exact Kd.S_drewN H_x0.out _) hb); have H_g0 := Aside0.mk (show Kd.R _ _ w5 w.heap.size (fun k_ => w4.heap.size ≤ k_ ∧ k_ < w5.heap.size) v0_ g0 from Kd.R_mono (Kd.R_lower (Kd.R_bound ho0) HB.out.size) (fun k_ hk_ => ⟨hk_.2.1, hk_.2.2.1⟩)); obtain ⟨A_g0, c_g0, e_g0⟩ := Kd.R_slice ho0; subst e_g0; clear ho0; have Z5 := Aside0.mk (show w4.heap.size ≤ w5.heap.size from hb.size); have HB' := Aside0.mk (below_step (by repeat (first | (with_reducible first | exact HB.out | apply below_alloc | apply pw_below_drewN | apply below_drew1) | exact HB.out)) hb); clear HB; have HB := HB'; clear HB'; clear H_w0; clear H_x0; have H_w0 := H_w0'; clear H_w0'; have H_x0 := H_x0'; clear H_x0'; clear E5) | (go_at_call 23; (with_reducible refine (laws_eqStringS.calls (hr0 := (Kd.R_reads' (by first | exact H_g0.out | exact Kd.R_drewN H_g0.out _)).2.2) (hc0 := (Kd.R_reads' H_g0.out).2.1) (hr1 := (Kd.R_reads' (by first | exact H_w0.out | exact Kd.R_drewN H_w0.out _)).2.2) (hc1 := (Kd.R_reads' H_w0.out).2.1) (h := E6.out)).mono ?_); rintro e w6 ⟨rfl, hd⟩; (first | have hb := below_of hd | have hb := hd); clear hd; have Z6 := Aside0.mk (show w5.heap.size ≤ w6.heap.size from hb.size); have HB' := Aside0.mk (below_step (by repeat (first | (with_reducible first | exact HB.out | apply below_alloc | apply pw_below_drewN | apply below_drew1) | exact HB.out)) hb); clear HB; have HB := HB'; clear HB'; have H_w0' := Aside0.mk (Kd.R_below (by first | exact H_w0.out | exact Kd.R_drewN H_w0.out _) hb); have H_x0' := Aside0.mk (Kd.S_below (by first | exact H_x0.out | exact Kd.S_drewN H_x0.out _) hb); have H_g0' := Aside0.mk (Kd.R_below (by first | exact H_g0.out | exact Kd.R_drewN H_g0.out _) hb); clear H_w0; clear H_x0; clear H_g0; have H_w0 := H_w0'; clear H_w0'; have H_x0 := H_x0'; clear H_x0'; have H_g0 := H_g0'; clear H_g0'; clear E6) | (go_at_call 14; (with_reducible refine (laws_toUnitS.calls (hr0 := (Kd.C_below HR_l0.out (by repeat (first | (with_reducible first | exact HB.out | apply below_alloc | apply pw_below_drewN | apply below_drew1) | exact HB.out)))) (hc0 := HC_l0.out) (h := E9.out)).mono ?_); rintro e w7 ⟨v0_, rfl, ho0, hb⟩; have H_w0' := Aside0.mk (Kd.R_below (by first | exact H_w0.out | exact Kd.R_drewN H_w0.out _) hb); have H_x0' := Aside0.mk (Kd.S_below (by first | exact H_x0.out | exact Kd.S_drewN H_x0.out _) hb); have H_g0' := Aside0.mk (Kd.R_below (by first | exact H_g0.out | exact Kd.R_drewN H_g0.out _) hb); have H_b0 := Aside0.mk (show Kd.S _ _ w7 w.heap.size (fun k_ => w6.heap.size ≤ k_ ∧ k_ < w7.heap.size) v0_ b0 from Kd.S_mono (Kd.S_lower (Kd.S_bound ho0) HB.out.size) (fun k_ hk_ => ⟨hk_.2.1, hk_.2.2.1⟩)); obtain ⟨A_b0, c_b0, e_b0⟩ := Kd.S_slice ho0; subst e_b0; clear ho0; have Z7 := Aside0.mk (show w6.heap.size ≤ w7.heap.size from hb.size); have HB' := Aside0.mk (below_step (by repeat (first | (with_reducible first | exact HB.out | apply below_alloc | apply pw_below_drewN | apply below_drew1) | exact HB.out)) hb); clear HB; have HB := HB'; clear HB'; clear H_w0; clear H_x0; clear H_g0; have H_w0 := H_w0'; clear H_w0'; have H_x0 := H_x0'; clear H_x0'; have H_g0 := H_g0'; clear H_g0'; clear E9) | (go_at_call 16; (with_reducible refine (laws_eqUnitS.calls (hr0 := (Kd.S_reads' (by first | exact H_x0.out | exact Kd.S_drewN H_x0.out _)).2.2) (hc0 := (Kd.S_reads' H_x0.out).2.1) (hr1 := (Kd.S_reads' (by first | exact H_b0.out | exact Kd.S_drewN H_b0.out _)).2.2) (hc1 := (Kd.S_reads' H_b0.out).2.1) (h := E10.out)).mono ?_); rintro e w8 ⟨rfl, hd⟩; (first | have hb := below_of hd | have hb := hd); clear hd; have Z8 := Aside0.mk (show w7.heap.size ≤ w8.heap.size from hb.size); have HB' := Aside0.mk (below_step (by repeat (first | (with_reducible first | exact HB.out | apply below_alloc | apply pw_below_drewN | apply below_drew1) | exact HB.out)) hb); clear HB; have HB := HB'; clear HB'; have H_w0' := Aside0.mk (Kd.R_below (by first | exact H_w0.out | exact Kd.R_drewN H_w0.out _) hb); have H_x0' := Aside0.mk (Kd.S_below (by first | exact H_x0.out | exact Kd.S_drewN H_x0.out _) hb); have H_g0' := Aside0.mk (Kd.R_below (by first | exact H_g0.out | exact Kd.R_drewN H_g0.out _) hb); have H_b0' := Aside0.mk (Kd.S_below (by first | exact H_b0.out | exact Kd.S_drewN H_b0.out _) hb); clear H_w0; clear H_x0; clear H_g0; clear H_b0; have H_w0 := H_w0'; clear H_w0'; have H_x0 := H_x0'; clear H_x0'; have H_g0 := H_g0'; clear H_g0'; have H_b0 := H_b0'; clear H_b0'; clear H_b0; clear E10) | (go_at_call 30; (with_reducible refine (laws_markUnitS.calls (w0 := w) (hB := by repeat (first | (with_reducible first | exact HB.out | apply below_alloc | apply pw_below_drewN | apply below_drew1) | exact HB.out)) (ho0 := by first | exact H_x0.out | exact Kd.S_drewN H_x0.out _) (h := E12.out)).mono ?_); rintro e w9 ⟨rfl, hb0, hk⟩; have Z9 := Aside0.mk (show w8.heap.size ≤ w9.heap.size from hk.1); have H_w0' := Aside0.mk (Kd.R_kept (by first | exact H_w0.out | exact Kd.R_drewN H_w0.out _) hk (fun k_ h1_ h2_ => by have h1_ : w2.heap.size ≤ k_ ∧ k_ < w3.heap.size := h1_; have h2_ : w3.heap.size ≤ k_ ∧ k_ < w4.heap.size := h2_; have := Z1.out; have := Z2.out; have := Z3.out; have := Z4.out; have := Z5.out; have := Z6.out; have := Z7.out; have := Z8.out; have := Z9.out; omega)); have H_g0' := Aside0.mk (Kd.R_kept (by first | exact H_g0.out | exact Kd.R_drewN H_g0.out _) hk (fun k_ h1_ h2_ => by have h1_ : w4.heap.size ≤ k_ ∧ k_ < w5.heap.size := h1_; have h2_ : w3.heap.size ≤ k_ ∧ k_ < w4.heap.size := h2_; have := Z1.out; have := Z2.out; have := Z3.out; have := Z4.out; have := Z5.out; have := Z6.out; have := Z7.out; have := Z8.out; have := Z9.out; omega)); have HB' := Aside0.mk hb0; clear HB; have HB := HB'; clear HB' hb0 hk; clear H_x0; clear H_w0; have H_w0 := H_w0'; clear H_w0'; clear H_g0; have H_g0 := H_g0'; clear H_g0'; clear E12) | (go_at_call 23; (with_reducible refine (laws_eqStringS.calls (hr0 := (Kd.R_reads' (by first | exact H_g0.out | exact Kd.R_drewN H_g0.out _)).2.2) (hc0 := (Kd.R_reads' H_g0.out).2.1) (hr1 := (Kd.R_reads' (by first | exact H_w0.out | exact Kd.R_drewN H_w0.out _)).2.2) (hc1 := (Kd.R_reads' H_w0.out).2.1) (h := E14.out)).mono ?_); rintro e w10 ⟨rfl, hd⟩; (first | have hb := below_of hd | have hb := hd); clear hd; have Z10 := Aside0.mk (show w9.heap.size ≤ w10.heap.size from hb.size); have HB' := Aside0.mk (below_step (by repeat (first | (with_reducible first | exact HB.out | apply below_alloc | apply pw_below_drewN | apply below_drew1) | exact HB.out)) hb); clear HB; have HB := HB'; clear HB'; have H_w0' := Aside0.mk (Kd.R_below (by first | exact H_w0.out | exact Kd.R_drewN H_w0.out _) hb); have H_g0' := Aside0.mk (Kd.R_below (by first | exact H_g0.out | exact Kd.R_drewN H_g0.out _) hb); clear H_w0; clear H_g0; have H_w0 := H_w0'; clear H_w0'; have H_g0 := H_g0'; clear H_g0'; clear E14) | (go_at_call 25; (with_reducible refine (laws_markStringS.calls (w0 := w) (hB := by repeat (first | (with_reducible first | exact HB.out | apply below_alloc | apply pw_below_drewN | apply below_drew1) | exact HB.out)) (ho0 := by first | exact H_g0.out | exact Kd.R_drewN H_g0.out _) (h := E16.out)).mono ?_); rintro e w11 ⟨rfl, ho, hb0, hk⟩; have hl := (Kd.R_reads' ho).1; have Z11 := Aside0.mk (show w10.heap.size ≤ w11.heap.size from hk.1); have H_w0' := Aside0.mk (Kd.R_kept (by first | exact H_w0.out | exact Kd.R_drewN H_w0.out _) hk (fun k_ h1_ h2_ => by have h1_ : w2.heap.size ≤ k_ ∧ k_ < w3.heap.size := h1_; have h2_ : w4.heap.size ≤ k_ ∧ k_ < w5.heap.size := h2_; have := Z1.out; have := Z2.out; have := Z3.out; have := Z4.out; have := Z5.out; have := Z6.out; have := Z7.out; have := Z8.out; have := Z9.out; have := Z10.out; have := Z11.out; omega)); have HB' := Aside0.mk hb0; clear HB; have HB := HB'; clear HB' hb0 hk; rw [hl] at ho; have H_g0' := Aside0.mk (Kd.R_bound ho); rw [hl]; clear ho; clear H_w0; clear H_g0; have H_w0 := H_w0'; clear H_w0'; have H_e0 := H_g0'; clear H_g0'; clear E16) | (go_at_call 27; (with_reducible refine (laws_heldStringS.calls (hr0 := (Kd.R_reads' (by first | exact H_e0.out | exact Kd.R_drewN H_e0.out _)).2.2) (hc0 := (Kd.R_reads' H_e0.out).2.1) (h := E17.out)).mono ?_); rintro e w12 ⟨rfl, hd⟩; (first | have hb := below_of hd | have hb := hd); clear hd; have Z12 := Aside0.mk (show w11.heap.size ≤ w12.heap.size from hb.size); have HB' := Aside0.mk (below_step (by repeat (first | (with_reducible first | exact HB.out | apply below_alloc | apply pw_below_drewN | apply below_drew1) | exact HB.out)) hb); clear HB; have HB := HB'; clear HB'; have H_w0' := Aside0.mk (Kd.R_below (by first | exact H_w0.out | exact Kd.R_drewN H_w0.out _) hb); have H_e0' := Aside0.mk (Kd.R_below (by first | exact H_e0.out | exact Kd.R_drewN H_e0.out _) hb); clear H_w0; clear H_e0; have H_w0 := H_w0'; clear H_w0'; have H_e0 := H_e0'; clear H_e0'; clear E17) | (go_at_call 14; (with_reducible refine (laws_toUnitS.calls (hr0 := (Kd.C_below HR_l0.out (by repeat (first | (with_reducible first | exact HB.out | apply below_alloc | apply pw_below_drewN | apply below_drew1) | exact HB.out)))) (hc0 := HC_l0.out) (h := E20.out)).mono ?_); rintro e w13 ⟨v0_, rfl, ho0, hb⟩; have H_w0' := Aside0.mk (Kd.R_below (by first | exact H_w0.out | exact Kd.R_drewN H_w0.out _) hb); have H_e0' := Aside0.mk (Kd.R_below (by first | exact H_e0.out | exact Kd.R_drewN H_e0.out _) hb); have H_c0 := Aside0.mk (show Kd.S _ _ w13 w.heap.size (fun k_ => w12.heap.size ≤ k_ ∧ k_ < w13.heap.size) v0_ c0 from Kd.S_mono (Kd.S_lower (Kd.S_bound ho0) HB.out.size) (fun k_ hk_ => ⟨hk_.2.1, hk_.2.2.1⟩)); obtain ⟨A_c0, c_c0, e_c0⟩ := Kd.S_slice ho0; subst e_c0; clear ho0; have Z13 := Aside0.mk (show w12.heap.size ≤ w13.heap.size from hb.size); have HB' := Aside0.mk (below_step (by repeat (first | (with_reducible first | exact HB.out | apply below_alloc | apply pw_below_drewN | apply below_drew1) | exact HB.out)) hb); clear HB; have HB := HB'; clear HB'; clear H_w0; clear H_e0; have H_w0 := H_w0'; clear H_w0'; have H_e0 := H_e0'; clear H_e0'; clear E20) | (go_at_call 32; (with_reducible refine (impl_StartOrder.calls (hr0 := (Kd.S_reads' (by first | exact H_c0.out | exact Kd.S_drewN H_c0.out _)).2.2) (hc0 := (Kd.S_reads' H_c0.out).2.1) (h := E21.out)).mono ?_); rintro e w14 ⟨v0_, rfl, ho0, hb⟩; have H_w0' := Aside0.mk (Kd.R_below (by first | exact H_w0.out | exact Kd.R_drewN H_w0.out _) hb); have H_e0' := Aside0.mk (Kd.R_below (by first | exact H_e0.out | exact Kd.R_drewN H_e0.out _) hb); have H_c0' := Aside0.mk (Kd.S_below (by first | exact H_c0.out | exact Kd.S_drewN H_c0.out _) hb); have H_h0 := Aside0.mk (show Kd.R _ _ w14 w.heap.size (fun k_ => w13.heap.size ≤ k_ ∧ k_ < w14.heap.size) v0_ h0 from Kd.R_mono (Kd.R_lower (Kd.R_bound ho0) HB.out.size) (fun k_ hk_ => ⟨hk_.2.1, hk_.2.2.1⟩)); obtain ⟨A_h0, c_h0, e_h0⟩ := Kd.R_slice ho0; subst e_h0; clear ho0; have Z14 := Aside0.mk (show w13.heap.size ≤ w14.heap.size from hb.size); have HB' := Aside0.mk (below_step (by repeat (first | (with_reducible first | exact HB.out | apply below_alloc | apply pw_below_drewN | apply below_drew1) | exact HB.out)) hb); clear HB; have HB := HB'; clear HB'; clear H_w0; clear H_e0; clear H_c0; have H_w0 := H_w0'; clear H_w0'; have H_e0 := H_e0'; clear H_e0'; have H_c0 := H_c0'; clear H_c0'; clear H_c0; clear E21) | (go_at_call 23; (with_reducible refine (laws_eqStringS.calls (hr0 := (Kd.R_reads' (by first | exact H_h0.out | exact Kd.R_drewN H_h0.out _)).2.2) (hc0 := (Kd.R_reads' H_h0.out).2.1) (hr1 := (Kd.R_reads' (by first | exact H_w0.out | exact Kd.R_drewN H_w0.out _)).2.2) (hc1 := (Kd.R_reads' H_w0.out).2.1) (h := E22.out)).mono ?_); rintro e w15 ⟨rfl, hd⟩; (first | have hb := below_of hd | have hb := hd); clear hd; have Z15 := Aside0.mk (show w14.heap.size ≤ w15.heap.size from hb.size); have HB' := Aside0.mk (below_step (by repeat (first | (with_reducible first | exact HB.out | apply below_alloc | apply pw_below_drewN | apply below_drew1) | exact HB.out)) hb); clear HB; have HB := HB'; clear HB'; have H_w0' := Aside0.mk (Kd.R_below (by first | exact H_w0.out | exact Kd.R_drewN H_w0.out _) hb); have H_e0' := Aside0.mk (Kd.R_below (by first | exact H_e0.out | exact Kd.R_drewN H_e0.out _) hb); have H_h0' := Aside0.mk (Kd.R_below (by first | exact H_h0.out | exact Kd.R_drewN H_h0.out _) hb); clear H_w0; clear H_e0; clear H_h0; have H_w0 := H_w0'; clear H_w0'; have H_e0 := H_e0'; clear H_e0'; have H_h0 := H_h0'; clear H_h0'; clear H_w0; clear H_h0; clear E22) | (go_at_call 27; (with_reducible refine (laws_heldStringS.calls (hr0 := (Kd.R_reads' (by first | exact H_e0.out | exact Kd.R_drewN H_e0.out _)).2.2) (hc0 := (Kd.R_reads' H_e0.out).2.1) (h := E25.out)).mono ?_); rintro e w16 ⟨rfl, hd⟩; (first | have hb := below_of hd | have hb := hd); clear hd; have Z16 := Aside0.mk (show w15.heap.size ≤ w16.heap.size from hb.size); have HB' := Aside0.mk (below_step (by repeat (first | (with_reducible first | exact HB.out | apply below_alloc | apply pw_below_drewN | apply below_drew1) | exact HB.out)) hb); clear HB; have HB := HB'; clear HB'; have H_e0' := Aside0.mk (Kd.R_below (by first | exact H_e0.out | exact Kd.R_drewN H_e0.out _) hb); clear H_e0; have H_e0 := H_e0'; clear H_e0'; clear H_e0; clear E25))
  go_ret
  exact ⟨rfl, by repeat (first | (with_reducible first | exact HB.out | apply below_alloc | apply pw_below_drewN | apply below_drew1) | exact HB.out)⟩

/-- THE ONE PURE STATEMENT of laws_FnExactStartOrder: yours. -/
def laws_FnExactStartOrder.Pure : Prop := ∀ (l0 : List (S65)), (l0.length ≤ maxLen ∧ ∀ y0 ∈ l0, (y0.f0.size ≤ maxLen ∧ (y0.f1.length ≤ maxLen ∧ ∀ y1 ∈ y0.f1, y1.size ≤ maxLen) ∧ (y0.f2.length ≤ maxLen ∧ ∀ y1 ∈ y0.f2, y1.size ≤ maxLen) ∧ y0.f3.size ≤ maxLen ∧ True)) → ∃ k, laws_FnExactStartOrder.f k l0 = some true
theorem laws_FnExactStartOrder.walk (P : laws_FnExactStartOrder.Pure) (A0 : Option Addr) (c0 : Nat) (l0 : List (S65)) (w : World) (hr0 : Kd.C k65 w A0 l0.length l0) (hc0 : l0.length ≤ c0) (ok0 : (l0.length ≤ maxLen ∧ ∀ y0 ∈ l0, (y0.f0.size ≤ maxLen ∧ (y0.f1.length ≤ maxLen ∧ ∀ y1 ∈ y0.f1, y1.size ≤ maxLen) ∧ (y0.f2.length ≤ maxLen ∧ ∀ y1 ∈ y0.f2, y1.size ≤ maxLen) ∧ y0.f3.size ≤ maxLen ∧ True))) :
    Calls Try.prog 6 #[.slice A0 l0.length c0] w fun e w' => e = .returned (.bool true) ∧ Below w.heap.size w w' := by
  obtain ⟨k, h⟩ := P l0 ok0
  refine (laws_FnExactStartOrder.calls k _ _ l0 true w hr0 hc0 h).mono ?_
  rintro e w' ⟨rfl, hd⟩
  exact ⟨rfl, hd⟩
end Go.Proofs.Ytnahkojlamficaa.PFnExactStartOrder
