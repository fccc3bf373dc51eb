-- Laid by a program of this session: a turned copy of the kit's print, with contracts by hand beside.
import Derived.Test.YtkijlpiiiejjkaaPFnExactApplyDeltax0
import Derived.Test.YtkijlpiiiejjkaaPFnExactApplyDeltax1
import Derived.Test.YtkijlpiiiejjkaaPFnExactApplyDeltax2
import Derived.Test.YtkijlpiiiejjkaaPFnExactApplyDeltax3
namespace Go.Proofs.Ytkijlpiiiejjkaa.PFnExactApplyDelta
open Go.RowKit Go.Proofs.YtkijlpiiiejjkaaW.PrintWords Go.Proofs.YtkijlpiiiejjkaaW.PrintLast Go.Proofs.YtkijlpiiiejjkaaW.PrintMore
attribute [local go_sem] max2_int min2_int max_two min_two max_three min_three max_four min_four   -- for this text's walks alone
set_option linter.unusedVariables false
set_option linter.unusedSimpArgs false

/-! ### impl_ApplyDelta: function 27 -/
mutual
def impl_ApplyDelta.l0 : Nat → List Int → List Int → List (S62) → Int → Int → Option (List Int × Bool)
  | 0, _, _, _, _, _ => none
  | k + 1, x0, x6, x13, x14, x15 => if x15 < x14 then (if 0 ≤ x15 then (if x15 < (x13.length : Int) then ((impl_stepOk.f ((rd_T62 x13 x15).f0) ((rd_T62 x13 x15).f1) ((rd_T62 x13 x15).f2) ((rd_T62 x13 x15).f3)).bind fun t159 => (if t159 = true then (if ((rd_T62 x13 x15).f0) = 2 then (if x6.length + ((rd_T62 x13 x15).f3).length < 140737488355328 then ((some (x6 ++ ((rd_T62 x13 x15).f3) : List Int)).bind fun y160 => (if (y160.length : Int) > 1000000 then (some (([] : List Int), false)) else (impl_ApplyDelta.l0 k x0 y160 x13 x14 (wrap64 (x15 + 1))))) else (none)) else (if ((rd_T62 x13 x15).f1) < 0 then (impl_ApplyDelta.j1 k x0 x6 x13 x14 x15 true ((rd_T62 x13 x15).f0) ((rd_T62 x13 x15).f1) ((rd_T62 x13 x15).f2) ((rd_T62 x13 x15).f3)) else (if ((rd_T62 x13 x15).f1) > (x0.length : Int) then (impl_ApplyDelta.j1 k x0 x6 x13 x14 x15 true ((rd_T62 x13 x15).f0) ((rd_T62 x13 x15).f1) ((rd_T62 x13 x15).f2) ((rd_T62 x13 x15).f3)) else (impl_ApplyDelta.j1 k x0 x6 x13 x14 x15 (decide (((rd_T62 x13 x15).f2) > (wrap64 ((x0.length : Int) - ((rd_T62 x13 x15).f1))))) ((rd_T62 x13 x15).f0) ((rd_T62 x13 x15).f1) ((rd_T62 x13 x15).f2) ((rd_T62 x13 x15).f3))))) else (some (([] : List Int), false)))) else (none)) else (none)) else (some (x6, true))
def impl_ApplyDelta.j1 : Nat → List Int → List Int → List (S62) → Int → Int → Bool → Int → Int → Int → List Int → Option (List Int × Bool)
  | 0, _, _, _, _, _, _, _, _, _, _ => none
  | k + 1, x0, x6, x13, x14, x15, x48, x159000, x159001, x159002, x159003 => if x48 = true then (some (([] : List Int), false)) else (if 0 ≤ x159001 then (if x159001 ≤ (wrap64 (x159001 + x159002)) then (if (wrap64 (x159001 + x159002)) ≤ (x0.length : Int) then (if x6.length + ((x0.take ((wrap64 (x159001 + x159002)) : Int).toNat).drop (x159001 : Int).toNat).length < 140737488355328 then ((some (x6 ++ ((x0.take ((wrap64 (x159001 + x159002)) : Int).toNat).drop (x159001 : Int).toNat) : List Int)).bind fun y164 => (if (y164.length : Int) > 1000000 then (some (([] : List Int), false)) else (impl_ApplyDelta.l0 k x0 y164 x13 x14 (wrap64 (x15 + 1))))) else (none)) else (none)) else (none)) else (none))
end
def impl_ApplyDelta.f (k : Nat) (l0 : List Int) (l1 : List (S62)) : Option (List Int × Bool) := if (l1.length : Int) > 10000 then (some (([] : List Int), false)) else (impl_ApplyDelta.l0 k l0 (([] : List Int)) l1 (l1.length : Int) 0)
theorem impl_ApplyDelta.mono_l : ∀ k, (∀ y0 y1 y2 y3 y4, LeO (impl_ApplyDelta.l0 k y0 y1 y2 y3 y4) (impl_ApplyDelta.l0 (k + 1) y0 y1 y2 y3 y4)) ∧ (∀ y0 y1 y2 y3 y4 y5 y6 y7 y8 y9, LeO (impl_ApplyDelta.j1 k y0 y1 y2 y3 y4 y5 y6 y7 y8 y9) (impl_ApplyDelta.j1 (k + 1) y0 y1 y2 y3 y4 y5 y6 y7 y8 y9))
  | 0 => ⟨fun _ _ _ _ _ r h => by simp [impl_ApplyDelta.l0] at h, fun _ _ _ _ _ _ _ _ _ _ r h => by simp [impl_ApplyDelta.j1] at h⟩
  | k + 1 => by
    obtain ⟨ih0, ih1⟩ := impl_ApplyDelta.mono_l k
    refine ⟨?_, ?_⟩
    · intro y0 y1 y2 y3 y4
      unfold impl_ApplyDelta.l0
      repeat' first
      | (with_reducible exact ih0 _ _ _ _ _)
      | (with_reducible exact ih1 _ _ _ _ _ _ _ _ _ _)
      | (with_reducible exact LeO.refl _)
      | (with_reducible exact LeO.none _)
      | (with_reducible refine LeO.ite ?_ ?_)
      | (with_reducible refine LeO.bind ?_ (fun _ => ?_))
      | exact ih0 _ _ _ _ _
      | exact ih1 _ _ _ _ _ _ _ _ _ _
      | exact LeO.none _
      | refine LeO.ite ?_ ?_
      | refine LeO.bind ?_ (fun _ => ?_)
    · intro y0 y1 y2 y3 y4 y5 y6 y7 y8 y9
      unfold impl_ApplyDelta.j1
      repeat' first
      | (with_reducible exact ih0 _ _ _ _ _)
      | (with_reducible exact ih1 _ _ _ _ _ _ _ _ _ _)
      | (with_reducible exact LeO.refl _)
      | (with_reducible exact LeO.none _)
      | (with_reducible refine LeO.ite ?_ ?_)
      | (with_reducible refine LeO.bind ?_ (fun _ => ?_))
      | exact ih0 _ _ _ _ _
      | exact ih1 _ _ _ _ _ _ _ _ _ _
      | exact LeO.none _
      | refine LeO.ite ?_ ?_
      | refine LeO.bind ?_ (fun _ => ?_)
theorem impl_ApplyDelta.mono : ∀ a0 a1 k, LeO (impl_ApplyDelta.f k a0 a1) (impl_ApplyDelta.f (k + 1) a0 a1) := by
  intro a0 a1 k
  obtain ⟨ih0, ih1⟩ := impl_ApplyDelta.mono_l k
  unfold impl_ApplyDelta.f
  repeat' first
      | (with_reducible exact ih0 _ _ _ _ _)
      | (with_reducible exact ih1 _ _ _ _ _ _ _ _ _ _)
      | (with_reducible exact LeO.refl _)
      | (with_reducible exact LeO.none _)
      | (with_reducible refine LeO.ite ?_ ?_)
      | (with_reducible refine LeO.bind ?_ (fun _ => ?_))
      | exact ih0 _ _ _ _ _
      | exact ih1 _ _ _ _ _ _ _ _ _ _
      | exact LeO.none _
      | refine LeO.ite ?_ ?_
      | refine LeO.bind ?_ (fun _ => ?_)
set_option maxHeartbeats 8000000 in
set_option maxRecDepth 100000 in
theorem impl_ApplyDelta.calls (k : Nat) (A0 : Option Addr) (c0 : Nat) (l0 : List Int) (A1 : Option Addr) (c1 : Nat) (l1 : List (S62)) (r1 : List Int) (r2 : Bool) (w : World) (hr0 : Kd.C (Kd.int .u8) w A0 l0.length l0) (hc0 : l0.length ≤ c0) (hr1 : Kd.C k62 w A1 l1.length l1) (hc1 : l1.length ≤ c1) (h : impl_ApplyDelta.f k l0 l1 = some (r1, r2)) :
    Calls Try.prog 27 #[.slice A0 l0.length c0, .slice A1 l1.length c1] w fun e w' => ∃ v0_ : Value, e = .returned (.tuple #[v0_, .bool r2]) ∧ Kd.R (Kd.int .u8) 5 w' w.heap.size (fun _ => True) v0_ r1 ∧ Below w.heap.size w w' := by
  have hu62 := Try.underlying62
  have HR0 := Aside0.mk hr0
  have HC0 := Aside0.mk hc0
  clear hr0 hc0
  have HR1 := Aside0.mk hr1
  have HC1 := Aside0.mk hc1
  clear hr1 hc1
  have HB := Aside0.mk (Below.refl w.heap.size w)
  have H : (if (l1.length : Int) > 10000 then (some (([] : List Int), false)) else (impl_ApplyDelta.l0 k l0 (([] : List Int)) l1 (l1.length : Int) 0)) = some (r1, r2) := h
  clear h
  by_cases c3 : (l1.length : Int) > 10000
  · rw [if_pos c3] at H
    have c3b0 : decide (10000 < (l1.length : Int)) = true := decide_eq_true c3
    have c3b1 : decide (10000 < l1.length) = true := decide_eq_true (by omega)
    clear c3
    simp only [Option.some.injEq, Prod.mk.injEq] at H
    obtain ⟨rfl, rfl⟩ := H
    go_enter Try.func27, Try.ntmps27
    go_wp2
    go_ret2
    exact ⟨_, by first | rfl | (simp [errW_none, errW_some] <;> rfl) | (simp [*, errW_none, errW_some] <;> rfl), by first | exact Kd.R_nil _ _ _ _ _ | exact Kd.N_nil _ _ _ _ _ | exact Kd.V_nil _ _ _ _ _ | exact Kd.Q_nil _ _ _ _ _ | exact Kd.S_nil _ _ _ _ _, by repeat (first | (with_reducible first | exact HB.out | apply below_alloc | apply pw_below_drewN | apply below_drew1) | exact HB.out)⟩
  · rw [if_neg c3] at H
    have c3b0 : decide (10000 < (l1.length : Int)) = false := decide_eq_false c3
    have c3b1 : decide (10000 < l1.length) = false := decide_eq_false (by omega)
    clear c3
    obtain ⟨y154, hy154⟩ : ∃ y_ : List Int, y_ = (([] : List Int)) := ⟨_, rfl⟩
    replace H : (impl_ApplyDelta.l0 k l0 y154 l1 (l1.length : Int) 0) = some (r1, r2) := by first | (rw [hy154]; with_reducible exact H) | (have H2_ := (Option.bind_some _ _).symm.trans H; rw [hy154]; with_reducible exact H2_) | (have H2_ := (Option.bind_some _ _).symm.trans H; with_reducible exact H2_) | with_reducible exact H | (rw [hy154]; exact H) | exact H
    have Ny154 := Aside0.mk hy154
    clear hy154
    have H' := Aside0.mk H
    clear H
    go_enter Try.func27, Try.ntmps27
    go_wp2_with (first | ((with_reducible refine gate_dst (N := 12) rfl ?_); (try (refine gate_guard (by rfl) ?_; dsimp only)); refine Kd.R_lit (Kd.int .u8) _ 5 ?hg (N := 12) ?hd (xs := ([] : List Int)) (inner := []) (ok := fun _ => True) (okp := fun _ => True) ?hr ?hp (fun _ hk => hk) trivial (Below.refl _ _) (Nat.le_refl _) (by simp) ?_; (case hd => rfl); (case hg => rfl); (case hr => first | (go_simp; done) | (go_simp; rfl)); (case hp => exact (Reps.none _ _)); intro v155 w4 ho5 hb hg_ hnew_; clear hg_ hnew_; (first | rw [← Ny154.out] at ho5 | (simp only [Int.reduceToNat] at ho5; rw [← Ny154.out] at ho5)); have n0_ := Aside0.mk (Kd.R_lower ho5 (below_size (by repeat (first | (with_reducible first | exact HB.out | apply below_alloc | apply pw_below_drewN | apply below_drew1) | exact HB.out)))); have n1_ := Aside0.mk (below_step (by repeat (first | (with_reducible first | exact HB.out | apply below_alloc | apply pw_below_drewN | apply below_drew1) | exact HB.out)) hb); clear HB; have HO156 := n0_; have HB := n1_; clear n0_ n1_; clear hb ho5))
    go_loopg [6, 15] k (fun kq v6 v15 w' => ∃ (x6_1 : List Int) (x15_1 : Int), v15 = .int .i64 x15_1 ∧ Aside0 (impl_ApplyDelta.l0 kq l0 x6_1 l1 (l1.length : Int) x15_1 = some (r1, r2)) ∧ Aside0 (kq ≤ k) ∧ Aside0 (Kd.R (Kd.int .u8) 5 w' w.heap.size (fun _ => True) v6 x6_1) ∧ Aside0 (Below w.heap.size w w'))
    case atStart => exact ⟨(y154), (0), (by first | rfl | (simp; done) | (simp [*]; done)), H', ⟨Nat.le_refl _⟩, ⟨by (with_reducible repeat (first | apply Kd.R_alloc | apply Kd.R_drewN | apply Kd.R_drew)); exact HO156.out⟩, ⟨by repeat (first | (with_reducible first | exact HB.out | apply below_alloc | apply pw_below_drewN | apply below_drew1) | exact HB.out)⟩⟩
    case round =>
      clear H'
      try clear c1
      try clear c2
      try clear p2
      try clear c3
      try clear c3b0
      try clear c3b1
      obtain ⟨x6_1, x15_1, rfl, HA, HK1, HO_6, HB⟩ := hrel
      cases gk with
      | zero => exact absurd HA.out (by simp [impl_ApplyDelta.l0])
      | succ k1 =>
        have H := HA.out
        clear HA
        simp only [impl_ApplyDelta.l0] at H
        by_cases c6 : x15_1 < (l1.length : Int)
        · rw [if_pos c6] at H
          have c6b0 : decide (x15_1 < (l1.length : Int)) = true := decide_eq_true c6
          clear c6
          by_cases c7 : 0 ≤ x15_1
          · rw [if_pos c7] at H
            have c7b0 : decide (0 ≤ x15_1) = true := decide_eq_true c7
            clear c7
            by_cases c8 : x15_1 < (l1.length : Int)
            · rw [if_pos c8] at H
              have c8b0 : decide (x15_1 < (l1.length : Int)) = true := decide_eq_true c8
              clear c8
              replace H := Option.bind_eq_some_iff.mp H
              obtain ⟨t159, A90, H⟩ := H
              replace H : (if t159 = true then (if ((rd_T62 l1 x15_1).f0) = 2 then (if x6_1.length + ((rd_T62 l1 x15_1).f3).length < 140737488355328 then ((some (x6_1 ++ ((rd_T62 l1 x15_1).f3) : List Int)).bind fun y160 => (if (y160.length : Int) > 1000000 then (some (([] : List Int), false)) else (impl_ApplyDelta.l0 k1 l0 y160 l1 (l1.length : Int) (wrap64 (x15_1 + 1))))) else (none)) else (if ((rd_T62 l1 x15_1).f1) < 0 then (impl_ApplyDelta.j1 k1 l0 x6_1 l1 (l1.length : Int) x15_1 true ((rd_T62 l1 x15_1).f0) ((rd_T62 l1 x15_1).f1) ((rd_T62 l1 x15_1).f2) ((rd_T62 l1 x15_1).f3)) else (if ((rd_T62 l1 x15_1).f1) > (l0.length : Int) then (impl_ApplyDelta.j1 k1 l0 x6_1 l1 (l1.length : Int) x15_1 true ((rd_T62 l1 x15_1).f0) ((rd_T62 l1 x15_1).f1) ((rd_T62 l1 x15_1).f2) ((rd_T62 l1 x15_1).f3)) else (impl_ApplyDelta.j1 k1 l0 x6_1 l1 (l1.length : Int) x15_1 (decide (((rd_T62 l1 x15_1).f2) > (wrap64 ((l0.length : Int) - ((rd_T62 l1 x15_1).f1))))) ((rd_T62 l1 x15_1).f0) ((rd_T62 l1 x15_1).f1) ((rd_T62 l1 x15_1).f2) ((rd_T62 l1 x15_1).f3))))) else (some (([] : List Int), false))) = some (r1, r2) := H
              have A9 := Aside0.mk A90
              clear A90
              by_cases c10 : t159 = true
              · subst c10
                have H1 : (if ((rd_T62 l1 x15_1).f0) = 2 then (if x6_1.length + ((rd_T62 l1 x15_1).f3).length < 140737488355328 then ((some (x6_1 ++ ((rd_T62 l1 x15_1).f3) : List Int)).bind fun y160 => (if (y160.length : Int) > 1000000 then (some (([] : List Int), false)) else (impl_ApplyDelta.l0 k1 l0 y160 l1 (l1.length : Int) (wrap64 (x15_1 + 1))))) else (none)) else (if ((rd_T62 l1 x15_1).f1) < 0 then (impl_ApplyDelta.j1 k1 l0 x6_1 l1 (l1.length : Int) x15_1 true ((rd_T62 l1 x15_1).f0) ((rd_T62 l1 x15_1).f1) ((rd_T62 l1 x15_1).f2) ((rd_T62 l1 x15_1).f3)) else (if ((rd_T62 l1 x15_1).f1) > (l0.length : Int) then (impl_ApplyDelta.j1 k1 l0 x6_1 l1 (l1.length : Int) x15_1 true ((rd_T62 l1 x15_1).f0) ((rd_T62 l1 x15_1).f1) ((rd_T62 l1 x15_1).f2) ((rd_T62 l1 x15_1).f3)) else (impl_ApplyDelta.j1 k1 l0 x6_1 l1 (l1.length : Int) x15_1 (decide (((rd_T62 l1 x15_1).f2) > (wrap64 ((l0.length : Int) - ((rd_T62 l1 x15_1).f1))))) ((rd_T62 l1 x15_1).f0) ((rd_T62 l1 x15_1).f1) ((rd_T62 l1 x15_1).f2) ((rd_T62 l1 x15_1).f3))))) = some (r1, r2) := by rw [if_pos rfl] at H; exact H
                clear H
                have H := H1
                clear H1
                by_cases c11 : ((rd_T62 l1 x15_1).f0) = 2
                · rw [if_pos c11] at H
                  have c11b0 : (((rd_T62 l1 x15_1).f0) == 2) = true := beq_iff_eq.mpr c11
                  have c11b1 : (((rd_T62 l1 x15_1).f0) != 2) = false := bne_eq_false_iff_eq.mpr c11
                  clear c11
                  by_cases c12 : x6_1.length + ((rd_T62 l1 x15_1).f3).length < 140737488355328
                  · rw [if_pos c12] at H
                    have LMc12 := Aside0.mk c12
                    clear c12
                    obtain ⟨y160, hy160⟩ : ∃ y_ : List Int, y_ = (x6_1 ++ ((rd_T62 l1 x15_1).f3)) := ⟨_, rfl⟩
                    replace H : (if (y160.length : Int) > 1000000 then (some (([] : List Int), false)) else (impl_ApplyDelta.l0 k1 l0 y160 l1 (l1.length : Int) (wrap64 (x15_1 + 1)))) = some (r1, r2) := by first | (rw [hy160]; with_reducible exact H) | (have H2_ := (Option.bind_some _ _).symm.trans H; rw [hy160]; with_reducible exact H2_) | (have H2_ := (Option.bind_some _ _).symm.trans H; with_reducible exact H2_) | with_reducible exact H | (rw [hy160]; exact H) | exact H
                    have Ny160 := Aside0.mk hy160
                    clear hy160
                    by_cases c13 : (y160.length : Int) > 1000000
                    · rw [if_pos c13] at H
                      have c13b0 : decide (1000000 < (y160.length : Int)) = true := decide_eq_true c13
                      have c13b1 : decide (1000000 < y160.length) = true := decide_eq_true (by omega)
                      clear c13
                      simp only [Option.some.injEq, Prod.mk.injEq] at H
                      obtain ⟨rfl, rfl⟩ := H
                      have p157 : 0 ≤ (x15_1 : Int) := of_decide_eq_true (by first | (with_reducible assumption) | assumption)
                      have q157 : x15_1 < (l1.length : Int) := of_decide_eq_true (by first | (with_reducible assumption) | assumption)
                      obtain ⟨ad157, A157_3, c157_3, e157, hx157_0, hx157_1, hx157_2, hx157_3, hl157_3, hi157_3⟩ := at_T62 HR1.out x15_1 p157 q157
                      cases e157
                      replace hx157_0 := (HB.out.cell (World.block_lt_of_cell? w _ hx157_0)).trans hx157_0
                      replace hx157_1 := (HB.out.cell (World.block_lt_of_cell? w _ hx157_1)).trans hx157_1
                      replace hx157_2 := (HB.out.cell (World.block_lt_of_cell? w _ hx157_2)).trans hx157_2
                      replace hx157_3 := (HB.out.cell (World.block_lt_of_cell? w _ hx157_3)).trans hx157_3
                      have HR157_3 := Aside0.mk hi157_3
                      have HC157_3 := Aside0.mk hl157_3
                      clear hi157_3 hl157_3
                      replace p157 := eq_true p157
                      replace q157 := eq_true q157
                      go_wp2_with (first | ((with_reducible refine gate_dst (N := 8) rfl ?_); (try (refine gate_guard (by rfl) ?_; dsimp only)); refine box_event ?hg (N := 8) ?hd (cs := #[.int .i64 0, .int .i64 0, .int .i64 0, .slice none 0 0]) (t := 62) ?hr ?_; (case hd => rfl); (case hg => rfl); (case hr => first | (go_simp; done) | (go_simp; rfl)); intro gb158 hg w14 hbox hb; have n0_ := Aside0.mk (Kd.R_below (by (with_reducible repeat (first | apply Kd.R_alloc | apply Kd.R_drewN | apply Kd.R_drew)); exact HO_6.out) hb); have n1_ := Aside0.mk (below_step (by repeat (first | (with_reducible first | exact HB.out | apply below_alloc | apply pw_below_drewN | apply below_drew1) | exact HB.out)) hb); have n2_ := Aside0.mk (hbox); have n3_ := Aside0.mk ((by rw [hg]; exact (below_size (by repeat (first | (with_reducible first | exact HB.out | apply below_alloc | apply pw_below_drewN | apply below_drew1) | exact HB.out))) : w.heap.size ≤ gb158)); have n4_ := Aside0.mk ((by rw [hg]; exact (below_size (by repeat (first | (with_reducible first | exact HB.out | apply below_alloc | apply pw_below_drewN | apply below_drew1) | exact HB.out))) : w.heap.size ≤ gb158)); clear HO_6; clear HB; have HO_6 := n0_; have HB := n1_; have BK158 := n2_; have GW158 := n3_; have GE158 := n4_; clear n0_ n1_ n2_ n3_ n4_; clear hb hbox hg; have hcz15_0 : w14.cell? ⟨gb158, 0, none⟩ = some (.int .i64 0) := (blk_cell BK158.out 0).trans rfl; have hcz15_1 : w14.cell? ⟨gb158, 1, none⟩ = some (.int .i64 0) := (blk_cell BK158.out 1).trans rfl; have hcz15_2 : w14.cell? ⟨gb158, 2, none⟩ = some (.int .i64 0) := (blk_cell BK158.out 2).trans rfl; have hcz15_3 : w14.cell? ⟨gb158, 3, none⟩ = some (.slice none 0 0) := (blk_cell BK158.out 3).trans rfl; have hfz15_0 := blk_frozen BK158.out 0; have hfz15_1 := blk_frozen BK158.out 1; have hfz15_2 := blk_frozen BK158.out 2; have hfz15_3 := blk_frozen BK158.out 3) | ((with_reducible refine gate_callee (f := 52) rfl ?_); refine goesL_ (some 20) rfl rfl Try.func52 (by kernel_rfl) rfl #[.agg #[.int .i64 ((rd_T62 l1 x15_1).f0), .int .i64 ((rd_T62 l1 x15_1).f1), .int .i64 ((rd_T62 l1 x15_1).f2), .slice A157_3 ((rd_T62 l1 x15_1).f3).length c157_3]] rfl (by (try simp only [List.map_toArray, List.map_cons, List.map_nil]); first | done | rfl | (simp only [List.length_drop, List.length_take]; rfl)) ?_; (with_reducible refine (impl_stepOk.calls ((rd_T62 l1 x15_1).f0) ((rd_T62 l1 x15_1).f1) ((rd_T62 l1 x15_1).f2) _ _ ((rd_T62 l1 x15_1).f3) true _ ?side1 ?side2 A9.out).mono ?_); (case side1 => exact Kd.C_below HR157_3.out (by repeat (first | (with_reducible first | exact HB.out | apply below_alloc | apply pw_below_drewN | apply below_drew1 | refine below_set ?_ GE158.out) | exact HB.out))); (case side2 => exact HC157_3.out); rintro e w16 ⟨rfl, hb⟩; refine ⟨_, rfl, ?_⟩; have n0_ := Aside0.mk (Kd.R_below (by (with_reducible repeat (first | apply Kd.R_alloc | apply Kd.R_drewN | apply Kd.R_drew)); exact (Kd.R_mono (Kd.R_far (p := ⟨gb158, 3, none⟩) (Kd.R_far (p := ⟨gb158, 2, none⟩) (Kd.R_far (p := ⟨gb158, 1, none⟩) (Kd.R_far (p := ⟨gb158, 0, none⟩) (Kd.R_types HO_6.out BK158.out (by decide)) (fun _ hk => hk.2) (.int .i64 ((rd_T62 l1 x15_1).f0))) (fun _ hk => hk.2) (.int .i64 ((rd_T62 l1 x15_1).f1))) (fun _ hk => hk.2) (.int .i64 ((rd_T62 l1 x15_1).f2))) (fun _ hk => hk.2) (.slice A157_3 ((rd_T62 l1 x15_1).f3).length c157_3)) (fun _ h_ => h_.1))) hb); have n1_ := Aside0.mk (blk_below (g := gb158) (o := .cells #[.int .i64 ((rd_T62 l1 x15_1).f0), .int .i64 ((rd_T62 l1 x15_1).f1), .int .i64 ((rd_T62 l1 x15_1).f2), .slice A157_3 ((rd_T62 l1 x15_1).f3).length c157_3] 62 (0, 0)) (by (with_reducible repeat (first | refine blk_drewN ?_ _ | refine blk_drew ?_ | refine blk_alloc ?_ _)); refine blk_put (cs := #[.int .i64 ((rd_T62 l1 x15_1).f0), .int .i64 ((rd_T62 l1 x15_1).f1), .int .i64 ((rd_T62 l1 x15_1).f2), .slice none 0 0]) ?_ 3 _ rfl; (with_reducible repeat (first | refine blk_drewN ?_ _ | refine blk_drew ?_ | refine blk_alloc ?_ _)); refine blk_put (cs := #[.int .i64 ((rd_T62 l1 x15_1).f0), .int .i64 ((rd_T62 l1 x15_1).f1), .int .i64 0, .slice none 0 0]) ?_ 2 _ rfl; (with_reducible repeat (first | refine blk_drewN ?_ _ | refine blk_drew ?_ | refine blk_alloc ?_ _)); refine blk_put (cs := #[.int .i64 ((rd_T62 l1 x15_1).f0), .int .i64 0, .int .i64 0, .slice none 0 0]) ?_ 1 _ rfl; (with_reducible repeat (first | refine blk_drewN ?_ _ | refine blk_drew ?_ | refine blk_alloc ?_ _)); refine blk_put (cs := #[.int .i64 0, .int .i64 0, .int .i64 0, .slice none 0 0]) ?_ 0 _ rfl; (with_reducible repeat (first | refine blk_drewN ?_ _ | refine blk_drew ?_ | refine blk_alloc ?_ _)); exact BK158.out) hb); have n2_ := Aside0.mk (below_step (by repeat (first | (with_reducible first | exact HB.out | apply below_alloc | apply pw_below_drewN | apply below_drew1 | refine below_set ?_ GE158.out) | exact HB.out)) hb); clear HO_6; clear BK158; clear HB; have HO_6 := n0_; have BK158 := n1_; have HB := n2_; clear n0_ n1_ n2_; (try clear hb); (try clear hb2); (try clear hk); (try clear hi); have hcz17_0 : w16.cell? ⟨gb158, 0, none⟩ = some (.int .i64 ((rd_T62 l1 x15_1).f0)) := (blk_cell BK158.out 0).trans rfl; have hcz17_1 : w16.cell? ⟨gb158, 1, none⟩ = some (.int .i64 ((rd_T62 l1 x15_1).f1)) := (blk_cell BK158.out 1).trans rfl; have hcz17_2 : w16.cell? ⟨gb158, 2, none⟩ = some (.int .i64 ((rd_T62 l1 x15_1).f2)) := (blk_cell BK158.out 2).trans rfl; have hcz17_3 : w16.cell? ⟨gb158, 3, none⟩ = some (.slice A157_3 ((rd_T62 l1 x15_1).f3).length c157_3) := (blk_cell BK158.out 3).trans rfl; have hfz17_0 := blk_frozen BK158.out 0; have hfz17_1 := blk_frozen BK158.out 1; have hfz17_2 := blk_frozen BK158.out 2; have hfz17_3 := blk_frozen BK158.out 3) | ((with_reducible refine gate_builtin (b := .append) (xs := #[.tmp 25, .tmp 27]) rfl ?_); (try (refine gate_guard (by rfl) ?_; dsimp only)); at_builtin; refine Kd.R_append_rows (Kd.int .u8) (w0 := w) w.heap.size rfl (.tmp 25) (.tmp 27) 22 5 (.int .u8 0) 1 rfl Try.underlying22 info5 rfl (by decide) (by omega) u6 x6_1 ((rd_T62 l1 x15_1).f3) _ _ _ (fun _ => True) (fun _ => False) rfl rfl ?aO ?aR (fun _ _ h => h) (fun _ h => h.elim) ?aF ?aB ?aS ?aL ?_; (case aR => repeat (first | exact (Kd.C_below HR157_3.out HB.out) | (with_reducible refine Kd.C_alloc ?_ _) | (with_reducible refine Kd.C_drewN ?_ _) | (with_reducible refine Kd.C_drew ?_))); (case aB => exact (by repeat (first | (with_reducible first | exact HB.out | apply below_alloc | apply pw_below_drewN | apply below_drew1 | refine below_set ?_ GE158.out) | exact HB.out))); (case aF => exact (fun _ _ => trivial)); (case aO => exact (by (with_reducible repeat (first | apply Kd.R_alloc | apply Kd.R_drewN | apply Kd.R_drew)); exact HO_6.out)); (case aS => exact (below_size (by repeat (first | (with_reducible first | exact HB.out | apply below_alloc | apply pw_below_drewN | apply below_drew1 | refine below_set ?_ GE158.out) | exact HB.out)))); (case aL => have := LMc12.out; omega); intro v161 w18 ho hb hg hat; rw [← Ny160.out] at ho; have n0_ := Aside0.mk (blk_grown (g := gb158) (o := .cells #[.int .i64 ((rd_T62 l1 x15_1).f0), .int .i64 ((rd_T62 l1 x15_1).f1), .int .i64 ((rd_T62 l1 x15_1).f2), .slice A157_3 ((rd_T62 l1 x15_1).f3).length c157_3] 62 (0, 0)) (by (with_reducible repeat (first | refine blk_drewN ?_ _ | refine blk_drew ?_ | refine blk_alloc ?_ _)); exact BK158.out) hg (Kd.R_ne HO_6.out BK158.out (by decide))); have n1_ := Aside0.mk (hb); have n2_ := Aside0.mk (ho); clear BK158; clear HB; clear HO_6; have BK158 := n0_; have HB := n1_; have HO162 := n2_; clear n0_ n1_ n2_; clear ho hb hg hat; obtain ⟨Ao19, co19, eo19⟩ := Kd.R_slice HO162.out; subst eo19))
                      go_ret2
                      exact ⟨_, by first | rfl | (simp [errW_none, errW_some] <;> rfl) | (simp [*, errW_none, errW_some] <;> rfl), by first | exact Kd.R_nil _ _ _ _ _ | exact Kd.N_nil _ _ _ _ _ | exact Kd.V_nil _ _ _ _ _ | exact Kd.Q_nil _ _ _ _ _ | exact Kd.S_nil _ _ _ _ _, by repeat (first | (with_reducible first | exact HB.out | apply below_alloc | apply pw_below_drewN | apply below_drew1 | refine below_set ?_ GE158.out) | exact HB.out)⟩
                    · rw [if_neg c13] at H
                      have c13b0 : decide (1000000 < (y160.length : Int)) = false := decide_eq_false c13
                      have c13b1 : decide (1000000 < y160.length) = false := decide_eq_false (by omega)
                      clear c13
                      have H' := Aside0.mk H
                      clear H
                      have p157 : 0 ≤ (x15_1 : Int) := of_decide_eq_true (by first | (with_reducible assumption) | assumption)
                      have q157 : x15_1 < (l1.length : Int) := of_decide_eq_true (by first | (with_reducible assumption) | assumption)
                      obtain ⟨ad157, A157_3, c157_3, e157, hx157_0, hx157_1, hx157_2, hx157_3, hl157_3, hi157_3⟩ := at_T62 HR1.out x15_1 p157 q157
                      cases e157
                      replace hx157_0 := (HB.out.cell (World.block_lt_of_cell? w _ hx157_0)).trans hx157_0
                      replace hx157_1 := (HB.out.cell (World.block_lt_of_cell? w _ hx157_1)).trans hx157_1
                      replace hx157_2 := (HB.out.cell (World.block_lt_of_cell? w _ hx157_2)).trans hx157_2
                      replace hx157_3 := (HB.out.cell (World.block_lt_of_cell? w _ hx157_3)).trans hx157_3
                      have HR157_3 := Aside0.mk hi157_3
                      have HC157_3 := Aside0.mk hl157_3
                      clear hi157_3 hl157_3
                      replace p157 := eq_true p157
                      replace q157 := eq_true q157
                      go_wp2_with (first | ((with_reducible refine gate_dst (N := 8) rfl ?_); (try (refine gate_guard (by rfl) ?_; dsimp only)); refine box_event ?hg (N := 8) ?hd (cs := #[.int .i64 0, .int .i64 0, .int .i64 0, .slice none 0 0]) (t := 62) ?hr ?_; (case hd => rfl); (case hg => rfl); (case hr => first | (go_simp; done) | (go_simp; rfl)); intro gb158 hg w20 hbox hb; have n0_ := Aside0.mk (Kd.R_below (by (with_reducible repeat (first | apply Kd.R_alloc | apply Kd.R_drewN | apply Kd.R_drew)); exact HO_6.out) hb); have n1_ := Aside0.mk (below_step (by repeat (first | (with_reducible first | exact HB.out | apply below_alloc | apply pw_below_drewN | apply below_drew1) | exact HB.out)) hb); have n2_ := Aside0.mk (hbox); have n3_ := Aside0.mk ((by rw [hg]; exact (below_size (by repeat (first | (with_reducible first | exact HB.out | apply below_alloc | apply pw_below_drewN | apply below_drew1) | exact HB.out))) : w.heap.size ≤ gb158)); have n4_ := Aside0.mk ((by rw [hg]; exact (below_size (by repeat (first | (with_reducible first | exact HB.out | apply below_alloc | apply pw_below_drewN | apply below_drew1) | exact HB.out))) : w.heap.size ≤ gb158)); clear HO_6; clear HB; have HO_6 := n0_; have HB := n1_; have BK158 := n2_; have GW158 := n3_; have GE158 := n4_; clear n0_ n1_ n2_ n3_ n4_; clear hb hbox hg; have hcz21_0 : w20.cell? ⟨gb158, 0, none⟩ = some (.int .i64 0) := (blk_cell BK158.out 0).trans rfl; have hcz21_1 : w20.cell? ⟨gb158, 1, none⟩ = some (.int .i64 0) := (blk_cell BK158.out 1).trans rfl; have hcz21_2 : w20.cell? ⟨gb158, 2, none⟩ = some (.int .i64 0) := (blk_cell BK158.out 2).trans rfl; have hcz21_3 : w20.cell? ⟨gb158, 3, none⟩ = some (.slice none 0 0) := (blk_cell BK158.out 3).trans rfl; have hfz21_0 := blk_frozen BK158.out 0; have hfz21_1 := blk_frozen BK158.out 1; have hfz21_2 := blk_frozen BK158.out 2; have hfz21_3 := blk_frozen BK158.out 3) | ((with_reducible refine gate_callee (f := 52) rfl ?_); refine goesL_ (some 20) rfl rfl Try.func52 (by kernel_rfl) rfl #[.agg #[.int .i64 ((rd_T62 l1 x15_1).f0), .int .i64 ((rd_T62 l1 x15_1).f1), .int .i64 ((rd_T62 l1 x15_1).f2), .slice A157_3 ((rd_T62 l1 x15_1).f3).length c157_3]] rfl (by (try simp only [List.map_toArray, List.map_cons, List.map_nil]); first | done | rfl | (simp only [List.length_drop, List.length_take]; rfl)) ?_; (with_reducible refine (impl_stepOk.calls ((rd_T62 l1 x15_1).f0) ((rd_T62 l1 x15_1).f1) ((rd_T62 l1 x15_1).f2) _ _ ((rd_T62 l1 x15_1).f3) true _ ?side1 ?side2 A9.out).mono ?_); (case side1 => exact Kd.C_below HR157_3.out (by repeat (first | (with_reducible first | exact HB.out | apply below_alloc | apply pw_below_drewN | apply below_drew1 | refine below_set ?_ GE158.out) | exact HB.out))); (case side2 => exact HC157_3.out); rintro e w22 ⟨rfl, hb⟩; refine ⟨_, rfl, ?_⟩; have n0_ := Aside0.mk (Kd.R_below (by (with_reducible repeat (first | apply Kd.R_alloc | apply Kd.R_drewN | apply Kd.R_drew)); exact (Kd.R_mono (Kd.R_far (p := ⟨gb158, 3, none⟩) (Kd.R_far (p := ⟨gb158, 2, none⟩) (Kd.R_far (p := ⟨gb158, 1, none⟩) (Kd.R_far (p := ⟨gb158, 0, none⟩) (Kd.R_types HO_6.out BK158.out (by decide)) (fun _ hk => hk.2) (.int .i64 ((rd_T62 l1 x15_1).f0))) (fun _ hk => hk.2) (.int .i64 ((rd_T62 l1 x15_1).f1))) (fun _ hk => hk.2) (.int .i64 ((rd_T62 l1 x15_1).f2))) (fun _ hk => hk.2) (.slice A157_3 ((rd_T62 l1 x15_1).f3).length c157_3)) (fun _ h_ => h_.1))) hb); have n1_ := Aside0.mk (blk_below (g := gb158) (o := .cells #[.int .i64 ((rd_T62 l1 x15_1).f0), .int .i64 ((rd_T62 l1 x15_1).f1), .int .i64 ((rd_T62 l1 x15_1).f2), .slice A157_3 ((rd_T62 l1 x15_1).f3).length c157_3] 62 (0, 0)) (by (with_reducible repeat (first | refine blk_drewN ?_ _ | refine blk_drew ?_ | refine blk_alloc ?_ _)); refine blk_put (cs := #[.int .i64 ((rd_T62 l1 x15_1).f0), .int .i64 ((rd_T62 l1 x15_1).f1), .int .i64 ((rd_T62 l1 x15_1).f2), .slice none 0 0]) ?_ 3 _ rfl; (with_reducible repeat (first | refine blk_drewN ?_ _ | refine blk_drew ?_ | refine blk_alloc ?_ _)); refine blk_put (cs := #[.int .i64 ((rd_T62 l1 x15_1).f0), .int .i64 ((rd_T62 l1 x15_1).f1), .int .i64 0, .slice none 0 0]) ?_ 2 _ rfl; (with_reducible repeat (first | refine blk_drewN ?_ _ | refine blk_drew ?_ | refine blk_alloc ?_ _)); refine blk_put (cs := #[.int .i64 ((rd_T62 l1 x15_1).f0), .int .i64 0, .int .i64 0, .slice none 0 0]) ?_ 1 _ rfl; (with_reducible repeat (first | refine blk_drewN ?_ _ | refine blk_drew ?_ | refine blk_alloc ?_ _)); refine blk_put (cs := #[.int .i64 0, .int .i64 0, .int .i64 0, .slice none 0 0]) ?_ 0 _ rfl; (with_reducible repeat (first | refine blk_drewN ?_ _ | refine blk_drew ?_ | refine blk_alloc ?_ _)); exact BK158.out) hb); have n2_ := Aside0.mk (below_step (by repeat (first | (with_reducible first | exact HB.out | apply below_alloc | apply pw_below_drewN | apply below_drew1 | refine below_set ?_ GE158.out) | exact HB.out)) hb); clear HO_6; clear BK158; clear HB; have HO_6 := n0_; have BK158 := n1_; have HB := n2_; clear n0_ n1_ n2_; (try clear hb); (try clear hb2); (try clear hk); (try clear hi); have hcz23_0 : w22.cell? ⟨gb158, 0, none⟩ = some (.int .i64 ((rd_T62 l1 x15_1).f0)) := (blk_cell BK158.out 0).trans rfl; have hcz23_1 : w22.cell? ⟨gb158, 1, none⟩ = some (.int .i64 ((rd_T62 l1 x15_1).f1)) := (blk_cell BK158.out 1).trans rfl; have hcz23_2 : w22.cell? ⟨gb158, 2, none⟩ = some (.int .i64 ((rd_T62 l1 x15_1).f2)) := (blk_cell BK158.out 2).trans rfl; have hcz23_3 : w22.cell? ⟨gb158, 3, none⟩ = some (.slice A157_3 ((rd_T62 l1 x15_1).f3).length c157_3) := (blk_cell BK158.out 3).trans rfl; have hfz23_0 := blk_frozen BK158.out 0; have hfz23_1 := blk_frozen BK158.out 1; have hfz23_2 := blk_frozen BK158.out 2; have hfz23_3 := blk_frozen BK158.out 3) | ((with_reducible refine gate_builtin (b := .append) (xs := #[.tmp 25, .tmp 27]) rfl ?_); (try (refine gate_guard (by rfl) ?_; dsimp only)); at_builtin; refine Kd.R_append_rows (Kd.int .u8) (w0 := w) w.heap.size rfl (.tmp 25) (.tmp 27) 22 5 (.int .u8 0) 1 rfl Try.underlying22 info5 rfl (by decide) (by omega) u6 x6_1 ((rd_T62 l1 x15_1).f3) _ _ _ (fun _ => True) (fun _ => False) rfl rfl ?aO ?aR (fun _ _ h => h) (fun _ h => h.elim) ?aF ?aB ?aS ?aL ?_; (case aR => repeat (first | exact (Kd.C_below HR157_3.out HB.out) | (with_reducible refine Kd.C_alloc ?_ _) | (with_reducible refine Kd.C_drewN ?_ _) | (with_reducible refine Kd.C_drew ?_))); (case aB => exact (by repeat (first | (with_reducible first | exact HB.out | apply below_alloc | apply pw_below_drewN | apply below_drew1 | refine below_set ?_ GE158.out) | exact HB.out))); (case aF => exact (fun _ _ => trivial)); (case aO => exact (by (with_reducible repeat (first | apply Kd.R_alloc | apply Kd.R_drewN | apply Kd.R_drew)); exact HO_6.out)); (case aS => exact (below_size (by repeat (first | (with_reducible first | exact HB.out | apply below_alloc | apply pw_below_drewN | apply below_drew1 | refine below_set ?_ GE158.out) | exact HB.out)))); (case aL => have := LMc12.out; omega); intro v161 w24 ho hb hg hat; rw [← Ny160.out] at ho; have n0_ := Aside0.mk (blk_grown (g := gb158) (o := .cells #[.int .i64 ((rd_T62 l1 x15_1).f0), .int .i64 ((rd_T62 l1 x15_1).f1), .int .i64 ((rd_T62 l1 x15_1).f2), .slice A157_3 ((rd_T62 l1 x15_1).f3).length c157_3] 62 (0, 0)) (by (with_reducible repeat (first | refine blk_drewN ?_ _ | refine blk_drew ?_ | refine blk_alloc ?_ _)); exact BK158.out) hg (Kd.R_ne HO_6.out BK158.out (by decide))); have n1_ := Aside0.mk (hb); have n2_ := Aside0.mk (ho); clear BK158; clear HB; clear HO_6; have BK158 := n0_; have HB := n1_; have HO162 := n2_; clear n0_ n1_ n2_; clear ho hb hg hat; obtain ⟨Ao25, co25, eo25⟩ := Kd.R_slice HO162.out; subst eo25))
                      go_roundg k1
                      case measure => have := HK1.out; omega
                      case rel => exact ⟨(y160), (wrap64 (x15_1 + 1)), (by first | rfl | (simp; done) | (simp [*]; done)), H', ⟨by have := HK1.out; omega⟩, ⟨by (with_reducible repeat (first | apply Kd.R_alloc | apply Kd.R_drewN | apply Kd.R_drew)); exact HO162.out⟩, ⟨by repeat (first | (with_reducible first | exact HB.out | apply below_alloc | apply pw_below_drewN | apply below_drew1 | refine below_set ?_ GE158.out) | exact HB.out)⟩⟩
                  · rw [if_neg c12] at H
                    exact absurd H (by simp)
                · rw [if_neg c11] at H
                  have c11b0 : (((rd_T62 l1 x15_1).f0) == 2) = false := beq_eq_false_iff_ne.mpr c11
                  have c11b1 : (((rd_T62 l1 x15_1).f0) != 2) = true := bne_iff_ne.mpr c11
                  have HC26 := Aside0.mk H
                  clear H
                  have p157 : 0 ≤ (x15_1 : Int) := of_decide_eq_true (by first | (with_reducible assumption) | assumption)
                  have q157 : x15_1 < (l1.length : Int) := of_decide_eq_true (by first | (with_reducible assumption) | assumption)
                  obtain ⟨ad157, A157_3, c157_3, e157, hx157_0, hx157_1, hx157_2, hx157_3, hl157_3, hi157_3⟩ := at_T62 HR1.out x15_1 p157 q157
                  cases e157
                  replace hx157_0 := (HB.out.cell (World.block_lt_of_cell? w _ hx157_0)).trans hx157_0
                  replace hx157_1 := (HB.out.cell (World.block_lt_of_cell? w _ hx157_1)).trans hx157_1
                  replace hx157_2 := (HB.out.cell (World.block_lt_of_cell? w _ hx157_2)).trans hx157_2
                  replace hx157_3 := (HB.out.cell (World.block_lt_of_cell? w _ hx157_3)).trans hx157_3
                  have HR157_3 := Aside0.mk hi157_3
                  have HC157_3 := Aside0.mk hl157_3
                  clear hi157_3 hl157_3
                  replace p157 := eq_true p157
                  replace q157 := eq_true q157
                  go_upto_region 11 with (first | ((with_reducible refine gate_dst (N := 8) rfl ?_); (try (refine gate_guard (by rfl) ?_; dsimp only)); refine box_event ?hg (N := 8) ?hd (cs := #[.int .i64 0, .int .i64 0, .int .i64 0, .slice none 0 0]) (t := 62) ?hr ?_; (case hd => rfl); (case hg => rfl); (case hr => first | (go_simp; done) | (go_simp; rfl)); intro gb158 hg w27 hbox hb; have n0_ := Aside0.mk (Kd.R_below (by (with_reducible repeat (first | apply Kd.R_alloc | apply Kd.R_drewN | apply Kd.R_drew)); exact HO_6.out) hb); have n1_ := Aside0.mk (below_step (by repeat (first | (with_reducible first | exact HB.out | apply below_alloc | apply pw_below_drewN | apply below_drew1) | exact HB.out)) hb); have n2_ := Aside0.mk (hbox); have n3_ := Aside0.mk ((by rw [hg]; exact (below_size (by repeat (first | (with_reducible first | exact HB.out | apply below_alloc | apply pw_below_drewN | apply below_drew1) | exact HB.out))) : w.heap.size ≤ gb158)); have n4_ := Aside0.mk ((by rw [hg]; exact (below_size (by repeat (first | (with_reducible first | exact HB.out | apply below_alloc | apply pw_below_drewN | apply below_drew1) | exact HB.out))) : w.heap.size ≤ gb158)); clear HO_6; clear HB; have HO_6 := n0_; have HB := n1_; have BK158 := n2_; have GW158 := n3_; have GE158 := n4_; clear n0_ n1_ n2_ n3_ n4_; clear hb hbox hg; have hcz28_0 : w27.cell? ⟨gb158, 0, none⟩ = some (.int .i64 0) := (blk_cell BK158.out 0).trans rfl; have hcz28_1 : w27.cell? ⟨gb158, 1, none⟩ = some (.int .i64 0) := (blk_cell BK158.out 1).trans rfl; have hcz28_2 : w27.cell? ⟨gb158, 2, none⟩ = some (.int .i64 0) := (blk_cell BK158.out 2).trans rfl; have hcz28_3 : w27.cell? ⟨gb158, 3, none⟩ = some (.slice none 0 0) := (blk_cell BK158.out 3).trans rfl; have hfz28_0 := blk_frozen BK158.out 0; have hfz28_1 := blk_frozen BK158.out 1; have hfz28_2 := blk_frozen BK158.out 2; have hfz28_3 := blk_frozen BK158.out 3) | ((with_reducible refine gate_callee (f := 52) rfl ?_); refine goesL_ (some 20) rfl rfl Try.func52 (by kernel_rfl) rfl #[.agg #[.int .i64 ((rd_T62 l1 x15_1).f0), .int .i64 ((rd_T62 l1 x15_1).f1), .int .i64 ((rd_T62 l1 x15_1).f2), .slice A157_3 ((rd_T62 l1 x15_1).f3).length c157_3]] rfl (by (try simp only [List.map_toArray, List.map_cons, List.map_nil]); first | done | rfl | (simp only [List.length_drop, List.length_take]; rfl)) ?_; (with_reducible refine (impl_stepOk.calls ((rd_T62 l1 x15_1).f0) ((rd_T62 l1 x15_1).f1) ((rd_T62 l1 x15_1).f2) _ _ ((rd_T62 l1 x15_1).f3) true _ ?side1 ?side2 A9.out).mono ?_); (case side1 => exact Kd.C_below HR157_3.out (by repeat (first | (with_reducible first | exact HB.out | apply below_alloc | apply pw_below_drewN | apply below_drew1 | refine below_set ?_ GE158.out) | exact HB.out))); (case side2 => exact HC157_3.out); rintro e w29 ⟨rfl, hb⟩; refine ⟨_, rfl, ?_⟩; have n0_ := Aside0.mk (Kd.R_below (by (with_reducible repeat (first | apply Kd.R_alloc | apply Kd.R_drewN | apply Kd.R_drew)); exact (Kd.R_mono (Kd.R_far (p := ⟨gb158, 3, none⟩) (Kd.R_far (p := ⟨gb158, 2, none⟩) (Kd.R_far (p := ⟨gb158, 1, none⟩) (Kd.R_far (p := ⟨gb158, 0, none⟩) (Kd.R_types HO_6.out BK158.out (by decide)) (fun _ hk => hk.2) (.int .i64 ((rd_T62 l1 x15_1).f0))) (fun _ hk => hk.2) (.int .i64 ((rd_T62 l1 x15_1).f1))) (fun _ hk => hk.2) (.int .i64 ((rd_T62 l1 x15_1).f2))) (fun _ hk => hk.2) (.slice A157_3 ((rd_T62 l1 x15_1).f3).length c157_3)) (fun _ h_ => h_.1))) hb); have n1_ := Aside0.mk (blk_below (g := gb158) (o := .cells #[.int .i64 ((rd_T62 l1 x15_1).f0), .int .i64 ((rd_T62 l1 x15_1).f1), .int .i64 ((rd_T62 l1 x15_1).f2), .slice A157_3 ((rd_T62 l1 x15_1).f3).length c157_3] 62 (0, 0)) (by (with_reducible repeat (first | refine blk_drewN ?_ _ | refine blk_drew ?_ | refine blk_alloc ?_ _)); refine blk_put (cs := #[.int .i64 ((rd_T62 l1 x15_1).f0), .int .i64 ((rd_T62 l1 x15_1).f1), .int .i64 ((rd_T62 l1 x15_1).f2), .slice none 0 0]) ?_ 3 _ rfl; (with_reducible repeat (first | refine blk_drewN ?_ _ | refine blk_drew ?_ | refine blk_alloc ?_ _)); refine blk_put (cs := #[.int .i64 ((rd_T62 l1 x15_1).f0), .int .i64 ((rd_T62 l1 x15_1).f1), .int .i64 0, .slice none 0 0]) ?_ 2 _ rfl; (with_reducible repeat (first | refine blk_drewN ?_ _ | refine blk_drew ?_ | refine blk_alloc ?_ _)); refine blk_put (cs := #[.int .i64 ((rd_T62 l1 x15_1).f0), .int .i64 0, .int .i64 0, .slice none 0 0]) ?_ 1 _ rfl; (with_reducible repeat (first | refine blk_drewN ?_ _ | refine blk_drew ?_ | refine blk_alloc ?_ _)); refine blk_put (cs := #[.int .i64 0, .int .i64 0, .int .i64 0, .slice none 0 0]) ?_ 0 _ rfl; (with_reducible repeat (first | refine blk_drewN ?_ _ | refine blk_drew ?_ | refine blk_alloc ?_ _)); exact BK158.out) hb); have n2_ := Aside0.mk (below_step (by repeat (first | (with_reducible first | exact HB.out | apply below_alloc | apply pw_below_drewN | apply below_drew1 | refine below_set ?_ GE158.out) | exact HB.out)) hb); clear HO_6; clear BK158; clear HB; have HO_6 := n0_; have BK158 := n1_; have HB := n2_; clear n0_ n1_ n2_; (try clear hb); (try clear hb2); (try clear hk); (try clear hi); have hcz30_0 : w29.cell? ⟨gb158, 0, none⟩ = some (.int .i64 ((rd_T62 l1 x15_1).f0)) := (blk_cell BK158.out 0).trans rfl; have hcz30_1 : w29.cell? ⟨gb158, 1, none⟩ = some (.int .i64 ((rd_T62 l1 x15_1).f1)) := (blk_cell BK158.out 1).trans rfl; have hcz30_2 : w29.cell? ⟨gb158, 2, none⟩ = some (.int .i64 ((rd_T62 l1 x15_1).f2)) := (blk_cell BK158.out 2).trans rfl; have hcz30_3 : w29.cell? ⟨gb158, 3, none⟩ = some (.slice A157_3 ((rd_T62 l1 x15_1).f3).length c157_3) := (blk_cell BK158.out 3).trans rfl; have hfz30_0 := blk_frozen BK158.out 0; have hfz30_1 := blk_frozen BK158.out 1; have hfz30_2 := blk_frozen BK158.out 2; have hfz30_3 := blk_frozen BK158.out 3))
                  (try simp only [Act.put, List.setIfInBounds_toArray, List.set_cons_zero, List.set_cons_succ])
                  go_cut [48] (fun v48 wc => ∃ (kq : Nat) (x48_25 : Bool), v48 = .bool x48_25 ∧ Aside0 (impl_ApplyDelta.j1 kq l0 x6_1 l1 (l1.length : Int) x15_1 x48_25 ((rd_T62 l1 x15_1).f0) ((rd_T62 l1 x15_1).f1) ((rd_T62 l1 x15_1).f2) ((rd_T62 l1 x15_1).f3) = some (r1, r2)) ∧ Aside0 (kq ≤ k1) ∧ Aside0 (Kd.R (Kd.int .u8) 5 wc w.heap.size (fun _ => True) u6 x6_1) ∧ Aside0 (wc.heap[gb158]? = some (.cells #[.int .i64 ((rd_T62 l1 x15_1).f0), .int .i64 ((rd_T62 l1 x15_1).f1), .int .i64 ((rd_T62 l1 x15_1).f2), (.slice A157_3 ((rd_T62 l1 x15_1).f3).length c157_3)] 62 (0, 0))) ∧ Aside0 (Below w.heap.size w wc))
                  case first =>
                    have H := HC26.out
                    clear HC26
                    by_cases c31 : ((rd_T62 l1 x15_1).f1) < 0
                    · rw [if_pos c31] at H
                      have c31b0 : decide (((rd_T62 l1 x15_1).f1) < 0) = true := decide_eq_true c31
                      clear c31
                      (first | rw [c31b0] | (simp only [i64_w, i32_w]; rw [c31b0]) | skip)
                      have H' := Aside0.mk H
                      clear H
                      have hcz32_0 : w29.cell? ⟨gb158, 0, none⟩ = some (.int .i64 ((rd_T62 l1 x15_1).f0)) := (blk_cell BK158.out 0).trans rfl
                      have hcz32_1 : w29.cell? ⟨gb158, 1, none⟩ = some (.int .i64 ((rd_T62 l1 x15_1).f1)) := (blk_cell BK158.out 1).trans rfl
                      have hcz32_2 : w29.cell? ⟨gb158, 2, none⟩ = some (.int .i64 ((rd_T62 l1 x15_1).f2)) := (blk_cell BK158.out 2).trans rfl
                      have hcz32_3 : w29.cell? ⟨gb158, 3, none⟩ = some (.slice A157_3 ((rd_T62 l1 x15_1).f3).length c157_3) := (blk_cell BK158.out 3).trans rfl
                      have hfz32_0 := blk_frozen BK158.out 0
                      have hfz32_1 := blk_frozen BK158.out 1
                      have hfz32_2 := blk_frozen BK158.out 2
                      have hfz32_3 := blk_frozen BK158.out 3
                      go_wp2
                      go_meet
                      case rel => exact ⟨_, (true), (by first | rfl | (simp; done) | (simp [*]; done)), H', ⟨by have := HK1.out; first | omega | exact Nat.le_refl _⟩, ⟨by (with_reducible repeat (first | apply Kd.R_alloc | apply Kd.R_drewN | apply Kd.R_drew)); exact HO_6.out⟩, ⟨by (with_reducible repeat (first | refine blk_drewN ?_ _ | refine blk_drew ?_ | refine blk_alloc ?_ _)); exact BK158.out⟩, ⟨by repeat (first | (with_reducible first | exact HB.out | apply below_alloc | apply pw_below_drewN | apply below_drew1 | refine below_set ?_ GE158.out) | exact HB.out)⟩⟩
                    · rw [if_neg c31] at H
                      have c31b0 : decide (((rd_T62 l1 x15_1).f1) < 0) = false := decide_eq_false c31
                      clear c31
                      (first | rw [c31b0] | (simp only [i64_w, i32_w]; rw [c31b0]) | skip)
                      by_cases c33 : ((rd_T62 l1 x15_1).f1) > (l0.length : Int)
                      · rw [if_pos c33] at H
                        have c33b0 : decide ((l0.length : Int) < ((rd_T62 l1 x15_1).f1)) = true := decide_eq_true c33
                        clear c33
                        have H' := Aside0.mk H
                        clear H
                        have hcz34_0 : w29.cell? ⟨gb158, 0, none⟩ = some (.int .i64 ((rd_T62 l1 x15_1).f0)) := (blk_cell BK158.out 0).trans rfl
                        have hcz34_1 : w29.cell? ⟨gb158, 1, none⟩ = some (.int .i64 ((rd_T62 l1 x15_1).f1)) := (blk_cell BK158.out 1).trans rfl
                        have hcz34_2 : w29.cell? ⟨gb158, 2, none⟩ = some (.int .i64 ((rd_T62 l1 x15_1).f2)) := (blk_cell BK158.out 2).trans rfl
                        have hcz34_3 : w29.cell? ⟨gb158, 3, none⟩ = some (.slice A157_3 ((rd_T62 l1 x15_1).f3).length c157_3) := (blk_cell BK158.out 3).trans rfl
                        have hfz34_0 := blk_frozen BK158.out 0
                        have hfz34_1 := blk_frozen BK158.out 1
                        have hfz34_2 := blk_frozen BK158.out 2
                        have hfz34_3 := blk_frozen BK158.out 3
                        go_wp2
                        go_meet
                        case rel => exact ⟨_, (true), (by first | rfl | (simp; done) | (simp [*]; done)), H', ⟨by have := HK1.out; first | omega | exact Nat.le_refl _⟩, ⟨by (with_reducible repeat (first | apply Kd.R_alloc | apply Kd.R_drewN | apply Kd.R_drew)); exact HO_6.out⟩, ⟨by (with_reducible repeat (first | refine blk_drewN ?_ _ | refine blk_drew ?_ | refine blk_alloc ?_ _)); exact BK158.out⟩, ⟨by repeat (first | (with_reducible first | exact HB.out | apply below_alloc | apply pw_below_drewN | apply below_drew1 | refine below_set ?_ GE158.out) | exact HB.out)⟩⟩
                      · rw [if_neg c33] at H
                        have c33b0 : decide ((l0.length : Int) < ((rd_T62 l1 x15_1).f1)) = false := decide_eq_false c33
                        clear c33
                        have H' := Aside0.mk H
                        clear H
                        have hcz35_0 : w29.cell? ⟨gb158, 0, none⟩ = some (.int .i64 ((rd_T62 l1 x15_1).f0)) := (blk_cell BK158.out 0).trans rfl
                        have hcz35_1 : w29.cell? ⟨gb158, 1, none⟩ = some (.int .i64 ((rd_T62 l1 x15_1).f1)) := (blk_cell BK158.out 1).trans rfl
                        have hcz35_2 : w29.cell? ⟨gb158, 2, none⟩ = some (.int .i64 ((rd_T62 l1 x15_1).f2)) := (blk_cell BK158.out 2).trans rfl
                        have hcz35_3 : w29.cell? ⟨gb158, 3, none⟩ = some (.slice A157_3 ((rd_T62 l1 x15_1).f3).length c157_3) := (blk_cell BK158.out 3).trans rfl
                        have hfz35_0 := blk_frozen BK158.out 0
                        have hfz35_1 := blk_frozen BK158.out 1
                        have hfz35_2 := blk_frozen BK158.out 2
                        have hfz35_3 := blk_frozen BK158.out 3
                        go_wp2
                        go_meet
                        case rel => exact ⟨_, (decide (((rd_T62 l1 x15_1).f2) > (wrap64 ((l0.length : Int) - ((rd_T62 l1 x15_1).f1))))), (by first | rfl | (simp; done) | (simp [*]; done)), H', ⟨by have := HK1.out; first | omega | exact Nat.le_refl _⟩, ⟨by (with_reducible repeat (first | apply Kd.R_alloc | apply Kd.R_drewN | apply Kd.R_drew)); exact HO_6.out⟩, ⟨by (with_reducible repeat (first | refine blk_drewN ?_ _ | refine blk_drew ?_ | refine blk_alloc ?_ _)); exact BK158.out⟩, ⟨by repeat (first | (with_reducible first | exact HB.out | apply below_alloc | apply pw_below_drewN | apply below_drew1 | refine below_set ?_ GE158.out) | exact HB.out)⟩⟩
                  case rest =>
                    clear HC26
                    try clear c1
                    try clear p1
                    try clear q1
                    try clear hx1
                    try clear c2
                    try clear p2
                    try clear c3
                    try clear c3b0
                    try clear c3b1
                    try clear c5
                    try clear c6
                    try clear c6b0
                    try clear p6
                    try clear c7
                    try clear c7b0
                    try clear c8
                    try clear c8b0
                    try clear c10
                    try clear c11
                    try clear c11b0
                    try clear c11b1
                    try clear c12
                    try clear c13
                    try clear c13b0
                    try clear c13b1
                    try clear c15
                    try clear p15
                    try clear q15
                    try clear hx15
                    try clear c27
                    try clear c31
                    try clear c31b0
                    try clear c33
                    try clear c33b0
                    try clear hcz15_0
                    try clear hcz15_1
                    try clear hcz15_2
                    try clear hcz15_3
                    try clear hcz17_0
                    try clear hcz17_1
                    try clear hcz17_2
                    try clear hcz17_3
                    try clear hcz21_0
                    try clear hcz21_1
                    try clear hcz21_2
                    try clear hcz21_3
                    try clear hcz23_0
                    try clear hcz23_1
                    try clear hcz23_2
                    try clear hcz23_3
                    try clear hcz28_0
                    try clear hcz28_1
                    try clear hcz28_2
                    try clear hcz28_3
                    try clear hcz30_0
                    try clear hcz30_1
                    try clear hcz30_2
                    try clear hcz30_3
                    try clear hcz32_0
                    try clear hcz32_1
                    try clear hcz32_2
                    try clear hcz32_3
                    try clear hcz34_0
                    try clear hcz34_1
                    try clear hcz34_2
                    try clear hcz34_3
                    try clear hcz35_0
                    try clear hcz35_1
                    try clear hcz35_2
                    try clear hcz35_3
                    try clear hfz15_0
                    try clear hfz15_1
                    try clear hfz15_2
                    try clear hfz15_3
                    try clear hfz17_0
                    try clear hfz17_1
                    try clear hfz17_2
                    try clear hfz17_3
                    try clear hfz21_0
                    try clear hfz21_1
                    try clear hfz21_2
                    try clear hfz21_3
                    try clear hfz23_0
                    try clear hfz23_1
                    try clear hfz23_2
                    try clear hfz23_3
                    try clear hfz28_0
                    try clear hfz28_1
                    try clear hfz28_2
                    try clear hfz28_3
                    try clear hfz30_0
                    try clear hfz30_1
                    try clear hfz30_2
                    try clear hfz30_3
                    try clear hfz32_0
                    try clear hfz32_1
                    try clear hfz32_2
                    try clear hfz32_3
                    try clear hfz34_0
                    try clear hfz34_1
                    try clear hfz34_2
                    try clear hfz34_3
                    try clear hfz35_0
                    try clear hfz35_1
                    try clear hfz35_2
                    try clear hfz35_3
                    try clear hx157_0
                    try clear hx157_1
                    try clear hx157_2
                    try clear hx157_3
                    try clear p157
                    try clear p2
                    try clear q157
                    obtain ⟨kq, x48_25, rfl, HA, HJ25, HO_6, BK158, HB⟩ := hcut
                    cases kq with
                    | zero => exact absurd HA.out (by simp [impl_ApplyDelta.j1])
                    | succ kj25 =>
                      have H := HA.out
                      clear HA
                      simp only [impl_ApplyDelta.j1] at H
                      by_cases c36 : x48_25 = true
                      · subst c36
                        have H1 : (some (([] : List Int), false)) = some (r1, r2) := by rw [if_pos rfl] at H; exact H
                        clear H
                        have H := H1
                        clear H1
                        simp only [Option.some.injEq, Prod.mk.injEq] at H
                        obtain ⟨rfl, rfl⟩ := H
                        go_wp2
                        go_ret2
                        exact ⟨_, by first | rfl | (simp [errW_none, errW_some] <;> rfl) | (simp [*, errW_none, errW_some] <;> rfl), by first | exact Kd.R_nil _ _ _ _ _ | exact Kd.N_nil _ _ _ _ _ | exact Kd.V_nil _ _ _ _ _ | exact Kd.Q_nil _ _ _ _ _ | exact Kd.S_nil _ _ _ _ _, by repeat (first | (with_reducible first | exact HB.out | apply below_alloc | apply pw_below_drewN | apply below_drew1 | refine below_set ?_ GE158.out) | exact HB.out)⟩
                      · replace c36 := Bool.eq_false_iff.mpr c36
                        subst c36
                        have H1 : (if 0 ≤ ((rd_T62 l1 x15_1).f1) then (if ((rd_T62 l1 x15_1).f1) ≤ (wrap64 (((rd_T62 l1 x15_1).f1) + ((rd_T62 l1 x15_1).f2))) then (if (wrap64 (((rd_T62 l1 x15_1).f1) + ((rd_T62 l1 x15_1).f2))) ≤ (l0.length : Int) then (if x6_1.length + ((l0.take ((wrap64 (((rd_T62 l1 x15_1).f1) + ((rd_T62 l1 x15_1).f2))) : Int).toNat).drop (((rd_T62 l1 x15_1).f1) : Int).toNat).length < 140737488355328 then ((some (x6_1 ++ ((l0.take ((wrap64 (((rd_T62 l1 x15_1).f1) + ((rd_T62 l1 x15_1).f2))) : Int).toNat).drop (((rd_T62 l1 x15_1).f1) : Int).toNat) : List Int)).bind fun y164 => (if (y164.length : Int) > 1000000 then (some (([] : List Int), false)) else (impl_ApplyDelta.l0 kj25 l0 y164 l1 (l1.length : Int) (wrap64 (x15_1 + 1))))) else (none)) else (none)) else (none)) else (none)) = some (r1, r2) := by rw [if_neg (show ¬ (false = true) by decide)] at H; exact H
                        clear H
                        have H := H1
                        clear H1
                        by_cases c37 : 0 ≤ ((rd_T62 l1 x15_1).f1)
                        · rw [if_pos c37] at H
                          have c37b0 := eq_true c37
                          have c37b1 : decide (0 ≤ ((rd_T62 l1 x15_1).f1)) = true := decide_eq_true c37
                          clear c37
                          by_cases c38 : ((rd_T62 l1 x15_1).f1) ≤ (wrap64 (((rd_T62 l1 x15_1).f1) + ((rd_T62 l1 x15_1).f2)))
                          · rw [if_pos c38] at H
                            have c38b0 := eq_true c38
                            have c38b1 : decide (((rd_T62 l1 x15_1).f1) ≤ (wrap64 (((rd_T62 l1 x15_1).f1) + ((rd_T62 l1 x15_1).f2)))) = true := decide_eq_true c38
                            by_cases c39 : (wrap64 (((rd_T62 l1 x15_1).f1) + ((rd_T62 l1 x15_1).f2))) ≤ (l0.length : Int)
                            · rw [if_pos c39] at H
                              have c39b0 := eq_true c39
                              have c39b1 : decide ((wrap64 (((rd_T62 l1 x15_1).f1) + ((rd_T62 l1 x15_1).f2))) ≤ (l0.length : Int)) = true := decide_eq_true c39
                              by_cases c40 : x6_1.length + ((l0.take ((wrap64 (((rd_T62 l1 x15_1).f1) + ((rd_T62 l1 x15_1).f2))) : Int).toNat).drop (((rd_T62 l1 x15_1).f1) : Int).toNat).length < 140737488355328
                              · rw [if_pos c40] at H
                                have LMc40 := Aside0.mk c40
                                clear c40
                                obtain ⟨y164, hy164⟩ : ∃ y_ : List Int, y_ = (x6_1 ++ ((l0.take ((wrap64 (((rd_T62 l1 x15_1).f1) + ((rd_T62 l1 x15_1).f2))) : Int).toNat).drop (((rd_T62 l1 x15_1).f1) : Int).toNat)) := ⟨_, rfl⟩
                                replace H : (if (y164.length : Int) > 1000000 then (some (([] : List Int), false)) else (impl_ApplyDelta.l0 kj25 l0 y164 l1 (l1.length : Int) (wrap64 (x15_1 + 1)))) = some (r1, r2) := by first | (rw [hy164]; with_reducible exact H) | (have H2_ := (Option.bind_some _ _).symm.trans H; rw [hy164]; with_reducible exact H2_) | (have H2_ := (Option.bind_some _ _).symm.trans H; with_reducible exact H2_) | with_reducible exact H | (rw [hy164]; exact H) | exact H
                                have Ny164 := Aside0.mk hy164
                                clear hy164
                                by_cases c41 : (y164.length : Int) > 1000000
                                · rw [if_pos c41] at H
                                  have c41b0 : decide (1000000 < (y164.length : Int)) = true := decide_eq_true c41
                                  have c41b1 : decide (1000000 < y164.length) = true := decide_eq_true (by omega)
                                  clear c41
                                  simp only [Option.some.injEq, Prod.mk.injEq] at H
                                  obtain ⟨rfl, rfl⟩ := H
                                  have hcz42_0 : wc.cell? ⟨gb158, 0, none⟩ = some (.int .i64 ((rd_T62 l1 x15_1).f0)) := (blk_cell BK158.out 0).trans rfl
                                  have hcz42_1 : wc.cell? ⟨gb158, 1, none⟩ = some (.int .i64 ((rd_T62 l1 x15_1).f1)) := (blk_cell BK158.out 1).trans rfl
                                  have hcz42_2 : wc.cell? ⟨gb158, 2, none⟩ = some (.int .i64 ((rd_T62 l1 x15_1).f2)) := (blk_cell BK158.out 2).trans rfl
                                  have hcz42_3 : wc.cell? ⟨gb158, 3, none⟩ = some (.slice A157_3 ((rd_T62 l1 x15_1).f3).length c157_3) := (blk_cell BK158.out 3).trans rfl
                                  have hfz42_0 := blk_frozen BK158.out 0
                                  have hfz42_1 := blk_frozen BK158.out 1
                                  have hfz42_2 := blk_frozen BK158.out 2
                                  have hfz42_3 := blk_frozen BK158.out 3
                                  obtain ⟨i043, hi043, _, hsz43, _⟩ := info_parts info5
                                  obtain ⟨A43, hcut43, hA43, hC43⟩ := print_mid_of (P := Try.prog) (Value.int .u8) 0 22 5 .i64 .i64 Try.underlying22 hi043 hsz43 A0 c0 l0 ((rd_T62 l1 x15_1).f1) (wrap64 (((rd_T62 l1 x15_1).f1) + ((rd_T62 l1 x15_1).f2))) (of_decide_eq_true (by first | (with_reducible assumption) | assumption)) (by first | omega | exact of_decide_eq_true (by first | (with_reducible assumption) | assumption)) (of_decide_eq_true (by first | (with_reducible assumption) | assumption)) HC0.out
                                  have HR163 := Aside0.mk (Kd.C_of_reads (h1 := fun _ => rfl) (hA43 _ (Kd.reads_of_C HR0.out)))
                                  have HC163 := Aside0.mk hC43
                                  clear hA43 hC43 hi043 hsz43
                                  go_wp2_with (first | ((with_reducible refine gate_builtin (b := .append) (xs := #[.tmp 49, .tmp 58]) rfl ?_); (try (refine gate_guard (by rfl) ?_; dsimp only)); at_builtin; refine Kd.R_append_rows (Kd.int .u8) (w0 := w) w.heap.size rfl (.tmp 49) (.tmp 58) 22 5 (.int .u8 0) 1 rfl Try.underlying22 info5 rfl (by decide) (by omega) u6 x6_1 ((l0.take ((wrap64 (((rd_T62 l1 x15_1).f1) + ((rd_T62 l1 x15_1).f2))) : Int).toNat).drop (((rd_T62 l1 x15_1).f1) : Int).toNat) _ _ _ (fun _ => True) (fun _ => False) rfl rfl ?aO ?aR (fun _ _ h => h) (fun _ h => h.elim) ?aF ?aB ?aS ?aL ?_; (case aR => first | (rw [← show ((l0.take ((wrap64 (((rd_T62 l1 x15_1).f1) + ((rd_T62 l1 x15_1).f2))) : Int).toNat).drop (((rd_T62 l1 x15_1).f1) : Int).toNat).length = ((wrap64 (((rd_T62 l1 x15_1).f1) + ((rd_T62 l1 x15_1).f2))).toNat - ((rd_T62 l1 x15_1).f1).toNat) from (by rw [List.length_drop, List.length_take]; have h_ : ((wrap64 (((rd_T62 l1 x15_1).f1) + ((rd_T62 l1 x15_1).f2))) : Int) ≤ (l0.length : Int) := of_decide_eq_true (by first | (with_reducible assumption) | assumption); omega)]; repeat (first | exact (Kd.C_below HR163.out HB.out) | (with_reducible refine Kd.C_alloc ?_ _) | (with_reducible refine Kd.C_drewN ?_ _) | (with_reducible refine Kd.C_drew ?_))) | (repeat (first | exact (Kd.C_below HR163.out HB.out) | (with_reducible refine Kd.C_alloc ?_ _) | (with_reducible refine Kd.C_drewN ?_ _) | (with_reducible refine Kd.C_drew ?_)))); (case aB => exact (by repeat (first | (with_reducible first | exact HB.out | apply below_alloc | apply pw_below_drewN | apply below_drew1 | refine below_set ?_ GE158.out) | exact HB.out))); (case aF => exact (fun _ _ => trivial)); (case aO => exact (by (with_reducible repeat (first | apply Kd.R_alloc | apply Kd.R_drewN | apply Kd.R_drew)); exact HO_6.out)); (case aS => exact (below_size (by repeat (first | (with_reducible first | exact HB.out | apply below_alloc | apply pw_below_drewN | apply below_drew1 | refine below_set ?_ GE158.out) | exact HB.out)))); (case aL => have := LMc40.out; have hlx_ := (show ((l0.take ((wrap64 (((rd_T62 l1 x15_1).f1) + ((rd_T62 l1 x15_1).f2))) : Int).toNat).drop (((rd_T62 l1 x15_1).f1) : Int).toNat).length = ((wrap64 (((rd_T62 l1 x15_1).f1) + ((rd_T62 l1 x15_1).f2))).toNat - ((rd_T62 l1 x15_1).f1).toNat) from (by rw [List.length_drop, List.length_take]; have h_ : ((wrap64 (((rd_T62 l1 x15_1).f1) + ((rd_T62 l1 x15_1).f2))) : Int) ≤ (l0.length : Int) := of_decide_eq_true (by first | (with_reducible assumption) | assumption); omega)); omega); intro v165 w44 ho hb hg hat; rw [← Ny164.out] at ho; have n0_ := Aside0.mk (blk_grown (g := gb158) (o := .cells #[.int .i64 ((rd_T62 l1 x15_1).f0), .int .i64 ((rd_T62 l1 x15_1).f1), .int .i64 ((rd_T62 l1 x15_1).f2), .slice A157_3 ((rd_T62 l1 x15_1).f3).length c157_3] 62 (0, 0)) (by (with_reducible repeat (first | refine blk_drewN ?_ _ | refine blk_drew ?_ | refine blk_alloc ?_ _)); exact BK158.out) hg (Kd.R_ne HO_6.out BK158.out (by decide))); have n1_ := Aside0.mk (hb); have n2_ := Aside0.mk (ho); clear BK158; clear HB; clear HO_6; have BK158 := n0_; have HB := n1_; have HO166 := n2_; clear n0_ n1_ n2_; clear ho hb hg hat; obtain ⟨Ao45, co45, eo45⟩ := Kd.R_slice HO166.out; subst eo45))
                                  go_ret2
                                  exact ⟨_, by first | rfl | (simp [errW_none, errW_some] <;> rfl) | (simp [*, errW_none, errW_some] <;> rfl), by first | exact Kd.R_nil _ _ _ _ _ | exact Kd.N_nil _ _ _ _ _ | exact Kd.V_nil _ _ _ _ _ | exact Kd.Q_nil _ _ _ _ _ | exact Kd.S_nil _ _ _ _ _, by repeat (first | (with_reducible first | exact HB.out | apply below_alloc | apply pw_below_drewN | apply below_drew1 | refine below_set ?_ GE158.out) | exact HB.out)⟩
                                · rw [if_neg c41] at H
                                  have c41b0 : decide (1000000 < (y164.length : Int)) = false := decide_eq_false c41
                                  have c41b1 : decide (1000000 < y164.length) = false := decide_eq_false (by omega)
                                  clear c41
                                  have H' := Aside0.mk H
                                  clear H
                                  have hcz46_0 : wc.cell? ⟨gb158, 0, none⟩ = some (.int .i64 ((rd_T62 l1 x15_1).f0)) := (blk_cell BK158.out 0).trans rfl
                                  have hcz46_1 : wc.cell? ⟨gb158, 1, none⟩ = some (.int .i64 ((rd_T62 l1 x15_1).f1)) := (blk_cell BK158.out 1).trans rfl
                                  have hcz46_2 : wc.cell? ⟨gb158, 2, none⟩ = some (.int .i64 ((rd_T62 l1 x15_1).f2)) := (blk_cell BK158.out 2).trans rfl
                                  have hcz46_3 : wc.cell? ⟨gb158, 3, none⟩ = some (.slice A157_3 ((rd_T62 l1 x15_1).f3).length c157_3) := (blk_cell BK158.out 3).trans rfl
                                  have hfz46_0 := blk_frozen BK158.out 0
                                  have hfz46_1 := blk_frozen BK158.out 1
                                  have hfz46_2 := blk_frozen BK158.out 2
                                  have hfz46_3 := blk_frozen BK158.out 3
                                  obtain ⟨i047, hi047, _, hsz47, _⟩ := info_parts info5
                                  obtain ⟨A47, hcut47, hA47, hC47⟩ := print_mid_of (P := Try.prog) (Value.int .u8) 0 22 5 .i64 .i64 Try.underlying22 hi047 hsz47 A0 c0 l0 ((rd_T62 l1 x15_1).f1) (wrap64 (((rd_T62 l1 x15_1).f1) + ((rd_T62 l1 x15_1).f2))) (of_decide_eq_true (by first | (with_reducible assumption) | assumption)) (by first | omega | exact of_decide_eq_true (by first | (with_reducible assumption) | assumption)) (of_decide_eq_true (by first | (with_reducible assumption) | assumption)) HC0.out
                                  have HR163 := Aside0.mk (Kd.C_of_reads (h1 := fun _ => rfl) (hA47 _ (Kd.reads_of_C HR0.out)))
                                  have HC163 := Aside0.mk hC47
                                  clear hA47 hC47 hi047 hsz47
                                  go_wp2_with (first | ((with_reducible refine gate_builtin (b := .append) (xs := #[.tmp 49, .tmp 58]) rfl ?_); (try (refine gate_guard (by rfl) ?_; dsimp only)); at_builtin; refine Kd.R_append_rows (Kd.int .u8) (w0 := w) w.heap.size rfl (.tmp 49) (.tmp 58) 22 5 (.int .u8 0) 1 rfl Try.underlying22 info5 rfl (by decide) (by omega) u6 x6_1 ((l0.take ((wrap64 (((rd_T62 l1 x15_1).f1) + ((rd_T62 l1 x15_1).f2))) : Int).toNat).drop (((rd_T62 l1 x15_1).f1) : Int).toNat) _ _ _ (fun _ => True) (fun _ => False) rfl rfl ?aO ?aR (fun _ _ h => h) (fun _ h => h.elim) ?aF ?aB ?aS ?aL ?_; (case aR => first | (rw [← show ((l0.take ((wrap64 (((rd_T62 l1 x15_1).f1) + ((rd_T62 l1 x15_1).f2))) : Int).toNat).drop (((rd_T62 l1 x15_1).f1) : Int).toNat).length = ((wrap64 (((rd_T62 l1 x15_1).f1) + ((rd_T62 l1 x15_1).f2))).toNat - ((rd_T62 l1 x15_1).f1).toNat) from (by rw [List.length_drop, List.length_take]; have h_ : ((wrap64 (((rd_T62 l1 x15_1).f1) + ((rd_T62 l1 x15_1).f2))) : Int) ≤ (l0.length : Int) := of_decide_eq_true (by first | (with_reducible assumption) | assumption); omega)]; repeat (first | exact (Kd.C_below HR163.out HB.out) | (with_reducible refine Kd.C_alloc ?_ _) | (with_reducible refine Kd.C_drewN ?_ _) | (with_reducible refine Kd.C_drew ?_))) | (repeat (first | exact (Kd.C_below HR163.out HB.out) | (with_reducible refine Kd.C_alloc ?_ _) | (with_reducible refine Kd.C_drewN ?_ _) | (with_reducible refine Kd.C_drew ?_)))); (case aB => exact (by repeat (first | (with_reducible first | exact HB.out | apply below_alloc | apply pw_below_drewN | apply below_drew1 | refine below_set ?_ GE158.out) | exact HB.out))); (case aF => exact (fun _ _ => trivial)); (case aO => exact (by (with_reducible repeat (first | apply Kd.R_alloc | apply Kd.R_drewN | apply Kd.R_drew)); exact HO_6.out)); (case aS => exact (below_size (by repeat (first | (with_reducible first | exact HB.out | apply below_alloc | apply pw_below_drewN | apply below_drew1 | refine below_set ?_ GE158.out) | exact HB.out)))); (case aL => have := LMc40.out; have hlx_ := (show ((l0.take ((wrap64 (((rd_T62 l1 x15_1).f1) + ((rd_T62 l1 x15_1).f2))) : Int).toNat).drop (((rd_T62 l1 x15_1).f1) : Int).toNat).length = ((wrap64 (((rd_T62 l1 x15_1).f1) + ((rd_T62 l1 x15_1).f2))).toNat - ((rd_T62 l1 x15_1).f1).toNat) from (by rw [List.length_drop, List.length_take]; have h_ : ((wrap64 (((rd_T62 l1 x15_1).f1) + ((rd_T62 l1 x15_1).f2))) : Int) ≤ (l0.length : Int) := of_decide_eq_true (by first | (with_reducible assumption) | assumption); omega)); omega); intro v165 w48 ho hb hg hat; rw [← Ny164.out] at ho; have n0_ := Aside0.mk (blk_grown (g := gb158) (o := .cells #[.int .i64 ((rd_T62 l1 x15_1).f0), .int .i64 ((rd_T62 l1 x15_1).f1), .int .i64 ((rd_T62 l1 x15_1).f2), .slice A157_3 ((rd_T62 l1 x15_1).f3).length c157_3] 62 (0, 0)) (by (with_reducible repeat (first | refine blk_drewN ?_ _ | refine blk_drew ?_ | refine blk_alloc ?_ _)); exact BK158.out) hg (Kd.R_ne HO_6.out BK158.out (by decide))); have n1_ := Aside0.mk (hb); have n2_ := Aside0.mk (ho); clear BK158; clear HB; clear HO_6; have BK158 := n0_; have HB := n1_; have HO166 := n2_; clear n0_ n1_ n2_; clear ho hb hg hat; obtain ⟨Ao49, co49, eo49⟩ := Kd.R_slice HO166.out; subst eo49))
                                  go_roundg kj25
                                  case measure => have := HK1.out; have := HJ25.out; omega
                                  case rel => exact ⟨(y164), (wrap64 (x15_1 + 1)), (by first | rfl | (simp; done) | (simp [*]; done)), H', ⟨by have := HK1.out; have := HJ25.out; omega⟩, ⟨by (with_reducible repeat (first | apply Kd.R_alloc | apply Kd.R_drewN | apply Kd.R_drew)); exact HO166.out⟩, ⟨by repeat (first | (with_reducible first | exact HB.out | apply below_alloc | apply pw_below_drewN | apply below_drew1 | refine below_set ?_ GE158.out) | exact HB.out)⟩⟩
                              · rw [if_neg c40] at H
                                exact absurd H (by simp)
                            · rw [if_neg c39] at H
                              exact absurd H (by simp)
                          · rw [if_neg c38] at H
                            exact absurd H (by simp)
                        · rw [if_neg c37] at H
                          exact absurd H (by simp)
              · replace c10 := Bool.eq_false_iff.mpr c10
                subst c10
                have H1 : (some (([] : List Int), false)) = some (r1, r2) := by rw [if_neg (show ¬ (false = true) by decide)] at H; exact H
                clear H
                have H := H1
                clear H1
                simp only [Option.some.injEq, Prod.mk.injEq] at H
                obtain ⟨rfl, rfl⟩ := H
                have p157 : 0 ≤ (x15_1 : Int) := of_decide_eq_true (by first | (with_reducible assumption) | assumption)
                have q157 : x15_1 < (l1.length : Int) := of_decide_eq_true (by first | (with_reducible assumption) | assumption)
                obtain ⟨ad157, A157_3, c157_3, e157, hx157_0, hx157_1, hx157_2, hx157_3, hl157_3, hi157_3⟩ := at_T62 HR1.out x15_1 p157 q157
                cases e157
                replace hx157_0 := (HB.out.cell (World.block_lt_of_cell? w _ hx157_0)).trans hx157_0
                replace hx157_1 := (HB.out.cell (World.block_lt_of_cell? w _ hx157_1)).trans hx157_1
                replace hx157_2 := (HB.out.cell (World.block_lt_of_cell? w _ hx157_2)).trans hx157_2
                replace hx157_3 := (HB.out.cell (World.block_lt_of_cell? w _ hx157_3)).trans hx157_3
                have HR157_3 := Aside0.mk hi157_3
                have HC157_3 := Aside0.mk hl157_3
                clear hi157_3 hl157_3
                replace p157 := eq_true p157
                replace q157 := eq_true q157
                go_wp2_with (first | ((with_reducible refine gate_dst (N := 8) rfl ?_); (try (refine gate_guard (by rfl) ?_; dsimp only)); refine box_event ?hg (N := 8) ?hd (cs := #[.int .i64 0, .int .i64 0, .int .i64 0, .slice none 0 0]) (t := 62) ?hr ?_; (case hd => rfl); (case hg => rfl); (case hr => first | (go_simp; done) | (go_simp; rfl)); intro gb158 hg w50 hbox hb; have n0_ := Aside0.mk (Kd.R_below (by (with_reducible repeat (first | apply Kd.R_alloc | apply Kd.R_drewN | apply Kd.R_drew)); exact HO_6.out) hb); have n1_ := Aside0.mk (below_step (by repeat (first | (with_reducible first | exact HB.out | apply below_alloc | apply pw_below_drewN | apply below_drew1) | exact HB.out)) hb); have n2_ := Aside0.mk (hbox); have n3_ := Aside0.mk ((by rw [hg]; exact (below_size (by repeat (first | (with_reducible first | exact HB.out | apply below_alloc | apply pw_below_drewN | apply below_drew1) | exact HB.out))) : w.heap.size ≤ gb158)); have n4_ := Aside0.mk ((by rw [hg]; exact (below_size (by repeat (first | (with_reducible first | exact HB.out | apply below_alloc | apply pw_below_drewN | apply below_drew1) | exact HB.out))) : w.heap.size ≤ gb158)); clear HO_6; clear HB; have HO_6 := n0_; have HB := n1_; have BK158 := n2_; have GW158 := n3_; have GE158 := n4_; clear n0_ n1_ n2_ n3_ n4_; clear hb hbox hg; have hcz51_0 : w50.cell? ⟨gb158, 0, none⟩ = some (.int .i64 0) := (blk_cell BK158.out 0).trans rfl; have hcz51_1 : w50.cell? ⟨gb158, 1, none⟩ = some (.int .i64 0) := (blk_cell BK158.out 1).trans rfl; have hcz51_2 : w50.cell? ⟨gb158, 2, none⟩ = some (.int .i64 0) := (blk_cell BK158.out 2).trans rfl; have hcz51_3 : w50.cell? ⟨gb158, 3, none⟩ = some (.slice none 0 0) := (blk_cell BK158.out 3).trans rfl; have hfz51_0 := blk_frozen BK158.out 0; have hfz51_1 := blk_frozen BK158.out 1; have hfz51_2 := blk_frozen BK158.out 2; have hfz51_3 := blk_frozen BK158.out 3) | ((with_reducible refine gate_callee (f := 52) rfl ?_); refine goesL_ (some 20) rfl rfl Try.func52 (by kernel_rfl) rfl #[.agg #[.int .i64 ((rd_T62 l1 x15_1).f0), .int .i64 ((rd_T62 l1 x15_1).f1), .int .i64 ((rd_T62 l1 x15_1).f2), .slice A157_3 ((rd_T62 l1 x15_1).f3).length c157_3]] rfl (by (try simp only [List.map_toArray, List.map_cons, List.map_nil]); first | done | rfl | (simp only [List.length_drop, List.length_take]; rfl)) ?_; (with_reducible refine (impl_stepOk.calls ((rd_T62 l1 x15_1).f0) ((rd_T62 l1 x15_1).f1) ((rd_T62 l1 x15_1).f2) _ _ ((rd_T62 l1 x15_1).f3) false _ ?side1 ?side2 A9.out).mono ?_); (case side1 => exact Kd.C_below HR157_3.out (by repeat (first | (with_reducible first | exact HB.out | apply below_alloc | apply pw_below_drewN | apply below_drew1 | refine below_set ?_ GE158.out) | exact HB.out))); (case side2 => exact HC157_3.out); rintro e w52 ⟨rfl, hb⟩; refine ⟨_, rfl, ?_⟩; have n0_ := Aside0.mk (Kd.R_below (by (with_reducible repeat (first | apply Kd.R_alloc | apply Kd.R_drewN | apply Kd.R_drew)); exact (Kd.R_mono (Kd.R_far (p := ⟨gb158, 3, none⟩) (Kd.R_far (p := ⟨gb158, 2, none⟩) (Kd.R_far (p := ⟨gb158, 1, none⟩) (Kd.R_far (p := ⟨gb158, 0, none⟩) (Kd.R_types HO_6.out BK158.out (by decide)) (fun _ hk => hk.2) (.int .i64 ((rd_T62 l1 x15_1).f0))) (fun _ hk => hk.2) (.int .i64 ((rd_T62 l1 x15_1).f1))) (fun _ hk => hk.2) (.int .i64 ((rd_T62 l1 x15_1).f2))) (fun _ hk => hk.2) (.slice A157_3 ((rd_T62 l1 x15_1).f3).length c157_3)) (fun _ h_ => h_.1))) hb); have n1_ := Aside0.mk (blk_below (g := gb158) (o := .cells #[.int .i64 ((rd_T62 l1 x15_1).f0), .int .i64 ((rd_T62 l1 x15_1).f1), .int .i64 ((rd_T62 l1 x15_1).f2), .slice A157_3 ((rd_T62 l1 x15_1).f3).length c157_3] 62 (0, 0)) (by (with_reducible repeat (first | refine blk_drewN ?_ _ | refine blk_drew ?_ | refine blk_alloc ?_ _)); refine blk_put (cs := #[.int .i64 ((rd_T62 l1 x15_1).f0), .int .i64 ((rd_T62 l1 x15_1).f1), .int .i64 ((rd_T62 l1 x15_1).f2), .slice none 0 0]) ?_ 3 _ rfl; (with_reducible repeat (first | refine blk_drewN ?_ _ | refine blk_drew ?_ | refine blk_alloc ?_ _)); refine blk_put (cs := #[.int .i64 ((rd_T62 l1 x15_1).f0), .int .i64 ((rd_T62 l1 x15_1).f1), .int .i64 0, .slice none 0 0]) ?_ 2 _ rfl; (with_reducible repeat (first | refine blk_drewN ?_ _ | refine blk_drew ?_ | refine blk_alloc ?_ _)); refine blk_put (cs := #[.int .i64 ((rd_T62 l1 x15_1).f0), .int .i64 0, .int .i64 0, .slice none 0 0]) ?_ 1 _ rfl; (with_reducible repeat (first | refine blk_drewN ?_ _ | refine blk_drew ?_ | refine blk_alloc ?_ _)); refine blk_put (cs := #[.int .i64 0, .int .i64 0, .int .i64 0, .slice none 0 0]) ?_ 0 _ rfl; (with_reducible repeat (first | refine blk_drewN ?_ _ | refine blk_drew ?_ | refine blk_alloc ?_ _)); exact BK158.out) hb); have n2_ := Aside0.mk (below_step (by repeat (first | (with_reducible first | exact HB.out | apply below_alloc | apply pw_below_drewN | apply below_drew1 | refine below_set ?_ GE158.out) | exact HB.out)) hb); clear HO_6; clear BK158; clear HB; have HO_6 := n0_; have BK158 := n1_; have HB := n2_; clear n0_ n1_ n2_; (try clear hb); (try clear hb2); (try clear hk); (try clear hi)))
                go_ret2
                exact ⟨_, by first | rfl | (simp [errW_none, errW_some] <;> rfl) | (simp [*, errW_none, errW_some] <;> rfl), by first | exact Kd.R_nil _ _ _ _ _ | exact Kd.N_nil _ _ _ _ _ | exact Kd.V_nil _ _ _ _ _ | exact Kd.Q_nil _ _ _ _ _ | exact Kd.S_nil _ _ _ _ _, by repeat (first | (with_reducible first | exact HB.out | apply below_alloc | apply pw_below_drewN | apply below_drew1 | refine below_set ?_ GE158.out) | exact HB.out)⟩
            · rw [if_neg c8] at H
              exact absurd H (by simp)
          · rw [if_neg c7] at H
            exact absurd H (by simp)
        · rw [if_neg c6] at H
          have c6b0 : decide (x15_1 < (l1.length : Int)) = false := decide_eq_false c6
          clear c6
          simp only [Option.some.injEq, Prod.mk.injEq] at H
          obtain ⟨rfl, rfl⟩ := H
          go_wp2
          go_ret2
          exact ⟨_, by first | rfl | (simp [errW_none, errW_some] <;> rfl) | (simp [*, errW_none, errW_some] <;> rfl), by (with_reducible repeat (first | apply Kd.R_alloc | apply Kd.R_drewN | apply Kd.R_drew)); exact HO_6.out, by repeat (first | (with_reducible first | exact HB.out | apply below_alloc | apply pw_below_drewN | apply below_drew1) | exact HB.out)⟩

/-! ### laws_heldByteS: function 28 -/
def laws_heldByteS.l0 : Nat → List Int → Int → Int → Option (Int)
  | 0, _, _, _ => none
  | k + 1, x0, x1, x5 => if x5 < (x0.length : Int) then (if 0 ≤ x5 then (if (rd x0 x5) = ((x1) % 256) then (laws_heldByteS.l0 k x0 (wrap64 (x1 + 1)) (wrap64 (x5 + 1))) else (some (-1))) else (none)) else (some x1)
def laws_heldByteS.f (k : Nat) (l0 : List Int) (a1 : Int) : Option (Int) := laws_heldByteS.l0 k l0 a1 0
theorem laws_heldByteS.mono_l : ∀ k, (∀ y0 y1 y2, LeO (laws_heldByteS.l0 k y0 y1 y2) (laws_heldByteS.l0 (k + 1) y0 y1 y2))
  | 0 => fun _ _ _ r h => by simp [laws_heldByteS.l0] at h
  | k + 1 => by
    have ih0 := laws_heldByteS.mono_l k
    · intro y0 y1 y2
      unfold laws_heldByteS.l0
      repeat' first
      | (with_reducible exact ih0 _ _ _)
      | (with_reducible exact LeO.refl _)
      | (with_reducible exact LeO.none _)
      | (with_reducible refine LeO.ite ?_ ?_)
      | (with_reducible refine LeO.bind ?_ (fun _ => ?_))
      | exact ih0 _ _ _
      | exact LeO.none _
      | refine LeO.ite ?_ ?_
      | refine LeO.bind ?_ (fun _ => ?_)
theorem laws_heldByteS.mono : ∀ a0 a1 k, LeO (laws_heldByteS.f k a0 a1) (laws_heldByteS.f (k + 1) a0 a1) := by
  intro a0 a1 k
  have ih0 := laws_heldByteS.mono_l k
  unfold laws_heldByteS.f
  repeat' first
      | (with_reducible exact ih0 _ _ _)
      | (with_reducible exact LeO.refl _)
      | (with_reducible exact LeO.none _)
      | (with_reducible refine LeO.ite ?_ ?_)
      | (with_reducible refine LeO.bind ?_ (fun _ => ?_))
      | exact ih0 _ _ _
      | exact LeO.none _
      | refine LeO.ite ?_ ?_
      | refine LeO.bind ?_ (fun _ => ?_)
set_option maxHeartbeats 8000000 in
set_option maxRecDepth 100000 in
theorem laws_heldByteS.calls (k : Nat) (A0 : Option Addr) (c0 : Nat) (l0 : List Int) (a1 : Int) (r : Int) (w : World) (hr0 : Kd.C (Kd.int .u8) w A0 l0.length l0) (hc0 : l0.length ≤ c0) (h : laws_heldByteS.f k l0 a1 = some r) :
    Calls Try.prog 28 #[.slice A0 l0.length c0, .int .i64 a1] w fun e w' => e = .returned (.int .i64 r) ∧ Drawn0 w w' := by
  have HR0 := Aside0.mk hr0
  have HC0 := Aside0.mk hc0
  clear hr0 hc0
  have H : (laws_heldByteS.l0 k l0 a1 0) = some r := h
  clear h
  have H' := Aside0.mk H
  clear H
  go_enter Try.func28, Try.ntmps28
  go_wp2
  go_loopg [1, 5] k (fun kq v1 v5 w' => ∃ (x1_1 : Int) (x5_1 : Int), v1 = .int .i64 x1_1 ∧ v5 = .int .i64 x5_1 ∧ Aside0 (laws_heldByteS.l0 kq l0 x1_1 x5_1 = some r) ∧ Aside0 (kq ≤ k) ∧ Drawn0 w w')
  case atStart => exact ⟨(a1), (0), (by first | rfl | (simp; done) | (simp [*]; done)), (by first | rfl | (simp; done) | (simp [*]; done)), H', ⟨Nat.le_refl _⟩, by repeat (first | exact Drawn0.refl _ | apply Drawn0.step)⟩
  case round =>
    clear H'
    try clear c2
    try clear p2
    obtain ⟨x1_1, x5_1, rfl, rfl, HA, HK1, ⟨m1, rfl⟩⟩ := hrel
    cases gk with
    | zero => exact absurd HA.out (by simp [laws_heldByteS.l0])
    | succ k1 =>
      have H := HA.out
      clear HA
      simp only [laws_heldByteS.l0] at H
      by_cases c3 : x5_1 < (l0.length : Int)
      · rw [if_pos c3] at H
        have c3b0 : decide (x5_1 < (l0.length : Int)) = true := decide_eq_true c3
        clear c3
        by_cases c4 : 0 ≤ x5_1
        · rw [if_pos c4] at H
          have c4b0 : decide (0 ≤ x5_1) = true := decide_eq_true c4
          clear c4
          by_cases c5 : (rd l0 x5_1) = ((x1_1) % 256)
          · rw [if_pos c5] at H
            have c5b0 : ((rd l0 x5_1) == ((x1_1) % 256)) = true := beq_iff_eq.mpr c5
            have c5b1 : ((rd l0 x5_1) != ((x1_1) % 256)) = false := bne_eq_false_iff_eq.mpr c5
            clear c5
            have H' := Aside0.mk H
            clear H
            have p167 : 0 ≤ (x5_1 : Int) := of_decide_eq_true (by first | (with_reducible assumption) | assumption)
            have q167 : x5_1 < (l0.length : Int) := of_decide_eq_true (by first | (with_reducible assumption) | assumption)
            obtain ⟨ad167, e167, hx167_0⟩ := Kd.at_int HR0.out x5_1 p167 q167
            cases e167
            replace p167 := eq_true p167
            replace q167 := eq_true q167
            go_wp2
            go_roundg k1
            case measure => have := HK1.out; omega
            case rel => exact ⟨(wrap64 (x1_1 + 1)), (wrap64 (x5_1 + 1)), (by first | rfl | (simp; done) | (simp [*]; done)), (by first | rfl | (simp; done) | (simp [*]; done)), H', ⟨by have := HK1.out; omega⟩, by repeat (first | exact Drawn0.refl _ | apply Drawn0.step)⟩
          · rw [if_neg c5] at H
            have c5b0 : ((rd l0 x5_1) == ((x1_1) % 256)) = false := beq_eq_false_iff_ne.mpr c5
            have c5b1 : ((rd l0 x5_1) != ((x1_1) % 256)) = true := bne_iff_ne.mpr c5
            obtain rfl := Option.some.inj H
            have p167 : 0 ≤ (x5_1 : Int) := of_decide_eq_true (by first | (with_reducible assumption) | assumption)
            have q167 : x5_1 < (l0.length : Int) := of_decide_eq_true (by first | (with_reducible assumption) | assumption)
            obtain ⟨ad167, e167, hx167_0⟩ := Kd.at_int HR0.out x5_1 p167 q167
            cases e167
            replace p167 := eq_true p167
            replace q167 := eq_true q167
            go_wp2
            go_ret
            exact ⟨by first | rfl | (simp; done) | (simp [*]; done), by repeat (first | exact Drawn0.refl _ | apply Drawn0.step)⟩
        · rw [if_neg c4] at H
          exact absurd H (by simp)
      · rw [if_neg c3] at H
        have c3b0 : decide (x5_1 < (l0.length : Int)) = false := decide_eq_false c3
        clear c3
        obtain rfl := Option.some.inj H
        go_wp2
        go_ret
        exact ⟨by first | rfl | (simp; done) | (simp [*]; done), by repeat (first | exact Drawn0.refl _ | apply Drawn0.step)⟩

/-! ### laws_FnExactApplyDelta: function 5 -/
def laws_FnExactApplyDelta.f (k : Nat) (l0 : List Int) (l1 : List (S65)) : Option Bool := if (l0.length : Int) > 1048576 then some true else ((laws_szStepS.f k l1 1048576).bind fun t0 => (if t0 < 0 then some true else ((laws_toByteS.f k l0).bind fun a0 => ((laws_toStepS.f k l1).bind fun a1 => ((spec_ApplyDelta.f k a0 a1).bind fun ⟨w0, w1⟩ => ((laws_toByteS.f k l0).bind fun y0 => ((laws_toStepS.f k l1).bind fun y1 => ((impl_ApplyDelta.f k y0 y1).bind fun ⟨g0, g1⟩ => ((laws_eqByteS.f k g0 w0).bind fun t1 => (if t1 = true then (if g1 = w1 then ((laws_toByteS.f k l0).bind fun b0 => ((laws_eqByteS.f k y0 b0).bind fun t2 => (if t2 = true then ((laws_toStepS.f k l1).bind fun b1 => ((laws_eqStepS.f k y1 b1).bind fun t3 => (if t3 = true then ((laws_markByteS.f k y0 1).bind fun ⟨k1, z0⟩ => ((laws_markStepS.f k y1 k1).bind fun ⟨k2, z1⟩ => (if k2 < 0 then none else ((laws_eqByteS.f k g0 w0).bind fun s1 => (if s1 = true then ((laws_markByteS.f k g0 1).bind fun ⟨m1, e0⟩ => ((laws_heldByteS.f k e0 1).bind fun q1 => (if q1 < 0 then none else (if m1 = q1 then ((laws_toByteS.f k l0).bind fun d0 => ((laws_toStepS.f k l1).bind fun d1 => ((impl_ApplyDelta.f k d0 d1).bind fun ⟨h0, h1⟩ => ((laws_eqByteS.f k h0 w0).bind fun s2 => (if s2 = true then (if g1 = h1 then ((laws_heldByteS.f k e0 1).bind fun q2 => (if m1 = q2 then (some true) else none)) else none) else none))))) else none)))) else none))))) else none))) else none))) else none) else none))))))))))
set_option maxHeartbeats 8000000 in
set_option maxRecDepth 100000 in
theorem laws_FnExactApplyDelta.calls (k : Nat) (Al0 : Option Addr) (cl0 : Nat) (l0 : List Int) (Al1 : Option Addr) (cl1 : Nat) (l1 : List (S65)) (r : Bool) (w : World) (hrl0 : Kd.C (Kd.int .u8) w Al0 l0.length l0) (hcl0 : l0.length ≤ cl0) (hrl1 : Kd.C k65 w Al1 l1.length l1) (hcl1 : l1.length ≤ cl1) (h : laws_FnExactApplyDelta.f k l0 l1 = some r) :
    Calls Try.prog 5 #[.slice Al0 l0.length cl0, .slice Al1 l1.length cl1] w fun e w' => e = .returned (.bool r) ∧ Below w.heap.size w w' := by
  have HR_l0 := Aside0.mk hrl0
  have HC_l0 := Aside0.mk hcl0
  clear hrl0 hcl0
  have HR_l1 := Aside0.mk hrl1
  have HC_l1 := Aside0.mk hcl1
  clear hrl1 hcl1
  have HB := Aside0.mk (Below.refl w.heap.size w)
  unfold laws_FnExactApplyDelta.f at h
  by_cases C0 : (l0.length : Int) > 1048576
  · rw [if_pos C0] at h
    have C0a : decide (1048576 < (l0.length : Int)) = true := decide_eq_true C0
    have C0b : decide (1048576 < l0.length) = true := decide_eq_true (by omega)
    clear C0
    obtain rfl := Option.some.inj h
    clear h
    go_enter Try.func5, Try.ntmps5
    go_wp2
    go_ret
    exact ⟨rfl, by repeat (first | (with_reducible first | exact HB.out | apply below_alloc | apply pw_below_drewN | apply below_drew1) | exact HB.out)⟩
  rw [if_neg C0] at h
  have C0a : decide (1048576 < (l0.length : Int)) = false := decide_eq_false C0
  have C0b : decide (1048576 < l0.length) = false := decide_eq_false (by omega)
  clear C0
  replace h := Option.bind_eq_some_iff.mp h
  obtain ⟨t0, E0, h⟩ := h
  have E1 := Aside0.mk E0
  clear E0
  try dsimp only at h
  by_cases C2 : t0 < 0
  · rw [if_pos C2] at h
    have C2a : decide (t0 < 0) = true := decide_eq_true C2
    clear C2
    obtain rfl := Option.some.inj h
    clear h
    go_enter Try.func5, Try.ntmps5
    go_wp2_with (first | (go_at_call 24; (with_reducible refine (laws_szStepS.calls (hr0 := (Kd.C_below HR_l1.out (by repeat (first | (with_reducible first | exact HB.out | apply below_alloc | apply pw_below_drewN | apply below_drew1) | exact HB.out)))) (hc0 := HC_l1.out) (h := E1.out)).mono ?_); rintro e w1 ⟨rfl, hd⟩; (first | have hb := below_of hd | have hb := hd); clear hd; have Z1 := Aside0.mk (show w.heap.size ≤ w1.heap.size from hb.size); have HB' := Aside0.mk (below_step (by repeat (first | (with_reducible first | exact HB.out | apply below_alloc | apply pw_below_drewN | apply below_drew1) | exact HB.out)) hb); clear HB; have HB := HB'; clear HB'; clear E1))
    go_ret
    exact ⟨rfl, by repeat (first | (with_reducible first | exact HB.out | apply below_alloc | apply pw_below_drewN | apply below_drew1) | exact HB.out)⟩
  rw [if_neg C2] at h
  have C2a : decide (t0 < 0) = false := decide_eq_false C2
  clear C2
  replace h := Option.bind_eq_some_iff.mp h
  obtain ⟨a0, E0, h⟩ := h
  have E3 := Aside0.mk E0
  clear E0
  try dsimp only at h
  replace h := Option.bind_eq_some_iff.mp h
  obtain ⟨a1, E0, h⟩ := h
  have E4 := Aside0.mk E0
  clear E0
  try dsimp only at h
  replace h := Option.bind_eq_some_iff.mp h
  obtain ⟨⟨w0, w1⟩, E0, h⟩ := h
  have E5 := Aside0.mk E0
  clear E0
  try dsimp only at h
  replace h := Option.bind_eq_some_iff.mp h
  obtain ⟨y0, E0, h⟩ := h
  have E6 := Aside0.mk E0
  clear E0
  try dsimp only at h
  replace h := Option.bind_eq_some_iff.mp h
  obtain ⟨y1, E0, h⟩ := h
  have E7 := Aside0.mk E0
  clear E0
  try dsimp only at h
  replace h := Option.bind_eq_some_iff.mp h
  obtain ⟨⟨g0, g1⟩, E0, h⟩ := h
  have E8 := Aside0.mk E0
  clear E0
  try dsimp only at h
  replace h := Option.bind_eq_some_iff.mp h
  obtain ⟨t1, E0, h⟩ := h
  have E9 := Aside0.mk E0
  clear E0
  try dsimp only at h
  by_cases C10 : ¬ (t1 = true)
  · rw [if_neg C10] at h; exact absurd h (by simp)
  replace C10 := Classical.not_not.mp C10
  rw [if_pos C10] at h
  subst C10
  by_cases C11 : ¬ (g1 = w1)
  · rw [if_neg C11] at h; exact absurd h (by simp)
  replace C11 := Classical.not_not.mp C11
  rw [if_pos C11] at h
  subst C11
  have C11a : (g1 != g1) = false := by simp
  have C11b : (g1 == g1) = true := by simp
  replace h := Option.bind_eq_some_iff.mp h
  obtain ⟨b0, E0, h⟩ := h
  have E12 := Aside0.mk E0
  clear E0
  try dsimp only at h
  replace h := Option.bind_eq_some_iff.mp h
  obtain ⟨t2, E0, h⟩ := h
  have E13 := Aside0.mk E0
  clear E0
  try dsimp only at h
  by_cases C14 : ¬ (t2 = true)
  · rw [if_neg C14] at h; exact absurd h (by simp)
  replace C14 := Classical.not_not.mp C14
  rw [if_pos C14] at h
  subst C14
  replace h := Option.bind_eq_some_iff.mp h
  obtain ⟨b1, E0, h⟩ := h
  have E15 := Aside0.mk E0
  clear E0
  try dsimp only at h
  replace h := Option.bind_eq_some_iff.mp h
  obtain ⟨t3, E0, h⟩ := h
  have E16 := Aside0.mk E0
  clear E0
  try dsimp only at h
  by_cases C17 : ¬ (t3 = true)
  · rw [if_neg C17] at h; exact absurd h (by simp)
  replace C17 := Classical.not_not.mp C17
  rw [if_pos C17] at h
  subst C17
  replace h := Option.bind_eq_some_iff.mp h
  obtain ⟨⟨k1, z0⟩, E0, h⟩ := h
  have E18 := Aside0.mk E0
  clear E0
  try dsimp only at h
  replace h := Option.bind_eq_some_iff.mp h
  obtain ⟨⟨k2, z1⟩, E0, h⟩ := h
  have E19 := Aside0.mk E0
  clear E0
  try dsimp only at h
  by_cases C20 : k2 < 0
  · rw [if_pos C20] at h; exact absurd h (by simp)
  rw [if_neg C20] at h
  have C20a : decide (k2 < 0) = false := decide_eq_false C20
  clear C20
  replace h := Option.bind_eq_some_iff.mp h
  obtain ⟨s1, E0, h⟩ := h
  have E21 := Aside0.mk E0
  clear E0
  try dsimp only at h
  by_cases C22 : ¬ (s1 = true)
  · rw [if_neg C22] at h; exact absurd h (by simp)
  replace C22 := Classical.not_not.mp C22
  rw [if_pos C22] at h
  subst C22
  replace h := Option.bind_eq_some_iff.mp h
  obtain ⟨⟨m1, e0⟩, E0, h⟩ := h
  have E23 := Aside0.mk E0
  clear E0
  try dsimp only at h
  replace h := Option.bind_eq_some_iff.mp h
  obtain ⟨q1, E0, h⟩ := h
  have E24 := Aside0.mk E0
  clear E0
  try dsimp only at h
  by_cases C25 : q1 < 0
  · rw [if_pos C25] at h; exact absurd h (by simp)
  rw [if_neg C25] at h
  have C25a : decide (q1 < 0) = false := decide_eq_false C25
  clear C25
  by_cases C26 : ¬ (m1 = q1)
  · rw [if_neg C26] at h; exact absurd h (by simp)
  replace C26 := Classical.not_not.mp C26
  rw [if_pos C26] at h
  subst C26
  have C26a : (m1 != m1) = false := by simp
  have C26b : (m1 == m1) = true := by simp
  replace h := Option.bind_eq_some_iff.mp h
  obtain ⟨d0, E0, h⟩ := h
  have E27 := Aside0.mk E0
  clear E0
  try dsimp only at h
  replace h := Option.bind_eq_some_iff.mp h
  obtain ⟨d1, E0, h⟩ := h
  have E28 := Aside0.mk E0
  clear E0
  try dsimp only at h
  replace h := Option.bind_eq_some_iff.mp h
  obtain ⟨⟨h0, h1⟩, E0, h⟩ := h
  have E29 := Aside0.mk E0
  clear E0
  try dsimp only at h
  replace h := Option.bind_eq_some_iff.mp h
  obtain ⟨s2, E0, h⟩ := h
  have E30 := Aside0.mk E0
  clear E0
  try dsimp only at h
  by_cases C31 : ¬ (s2 = true)
  · rw [if_neg C31] at h; exact absurd h (by simp)
  replace C31 := Classical.not_not.mp C31
  rw [if_pos C31] at h
  subst C31
  by_cases C32 : ¬ (g1 = h1)
  · rw [if_neg C32] at h; exact absurd h (by simp)
  replace C32 := Classical.not_not.mp C32
  rw [if_pos C32] at h
  subst C32
  have C32a : (g1 != g1) = false := by simp
  have C32b : (g1 == g1) = true := by simp
  replace h := Option.bind_eq_some_iff.mp h
  obtain ⟨q2, E0, h⟩ := h
  have E33 := Aside0.mk E0
  clear E0
  try dsimp only at h
  by_cases C34 : ¬ (m1 = q2)
  · rw [if_neg C34] at h; exact absurd h (by simp)
  replace C34 := Classical.not_not.mp C34
  rw [if_pos C34] at h
  subst C34
  have C34a : (m1 != m1) = false := by simp
  have C34b : (m1 == m1) = true := by simp
  obtain rfl := Option.some.inj h
  clear h
  go_enter Try.func5, Try.ntmps5
  go_wp2_with (first | (go_at_call 24; (with_reducible refine (laws_szStepS.calls (hr0 := (Kd.C_below HR_l1.out (by repeat (first | (with_reducible first | exact HB.out | apply below_alloc | apply pw_below_drewN | apply below_drew1) | exact HB.out)))) (hc0 := HC_l1.out) (h := E1.out)).mono ?_); rintro e w1 ⟨rfl, hd⟩; (first | have hb := below_of hd | have hb := hd); clear hd; have Z1 := Aside0.mk (show w.heap.size ≤ w1.heap.size from hb.size); have HB' := Aside0.mk (below_step (by repeat (first | (with_reducible first | exact HB.out | apply below_alloc | apply pw_below_drewN | apply below_drew1) | exact HB.out)) hb); clear HB; have HB := HB'; clear HB'; clear E1) | (go_at_call 15; (with_reducible refine (laws_toByteS.calls (hr0 := (Kd.C_below HR_l0.out (by repeat (first | (with_reducible first | exact HB.out | apply below_alloc | apply pw_below_drewN | apply below_drew1) | exact HB.out)))) (hc0 := HC_l0.out) (h := E3.out)).mono ?_); rintro e w2 ⟨v0_, rfl, ho0, hb⟩; have H_a0 := Aside0.mk (show Kd.R _ _ w2 w.heap.size (fun k_ => w1.heap.size ≤ k_ ∧ k_ < w2.heap.size) v0_ a0 from Kd.R_mono (Kd.R_lower (Kd.R_bound ho0) HB.out.size) (fun k_ hk_ => ⟨hk_.2.1, hk_.2.2.1⟩)); obtain ⟨A_a0, c_a0, e_a0⟩ := Kd.R_slice ho0; subst e_a0; clear ho0; have Z2 := Aside0.mk (show w1.heap.size ≤ w2.heap.size from hb.size); have HB' := Aside0.mk (below_step (by repeat (first | (with_reducible first | exact HB.out | apply below_alloc | apply pw_below_drewN | apply below_drew1) | exact HB.out)) hb); clear HB; have HB := HB'; clear HB'; clear E3) | (go_at_call 26; (with_reducible refine (laws_toStepS.calls (hr0 := (Kd.C_below HR_l1.out (by repeat (first | (with_reducible first | exact HB.out | apply below_alloc | apply pw_below_drewN | apply below_drew1) | exact HB.out)))) (hc0 := HC_l1.out) (h := E4.out)).mono ?_); rintro e w3 ⟨v0_, rfl, ho0, hb⟩; have H_a0' := Aside0.mk (Kd.R_below (by first | exact H_a0.out | exact Kd.R_drewN H_a0.out _) hb); have H_a1 := Aside0.mk (show Kd.S _ _ w3 w.heap.size (fun k_ => w2.heap.size ≤ k_ ∧ k_ < w3.heap.size) v0_ a1 from Kd.S_mono (Kd.S_lower (Kd.S_bound ho0) HB.out.size) (fun k_ hk_ => ⟨hk_.2.1, hk_.2.2.1⟩)); obtain ⟨A_a1, c_a1, e_a1⟩ := Kd.S_slice ho0; subst e_a1; clear ho0; have Z3 := Aside0.mk (show w2.heap.size ≤ w3.heap.size from hb.size); have HB' := Aside0.mk (below_step (by repeat (first | (with_reducible first | exact HB.out | apply below_alloc | apply pw_below_drewN | apply below_drew1) | exact HB.out)) hb); clear HB; have HB := HB'; clear HB'; clear H_a0; have H_a0 := H_a0'; clear H_a0'; clear E4) | (go_at_call 25; (with_reducible refine (spec_ApplyDelta.calls (hr0 := (Kd.R_reads' (by first | exact H_a0.out | exact Kd.R_drewN H_a0.out _)).2.2) (hc0 := (Kd.R_reads' H_a0.out).2.1) (hr1 := (Kd.S_reads' (by first | exact H_a1.out | exact Kd.S_drewN H_a1.out _)).2.2) (hc1 := (Kd.S_reads' H_a1.out).2.1) (h := E5.out)).mono ?_); rintro e w4 ⟨v0_, rfl, ho0, hb⟩; have H_a0' := Aside0.mk (Kd.R_below (by first | exact H_a0.out | exact Kd.R_drewN H_a0.out _) hb); have H_a1' := Aside0.mk (Kd.S_below (by first | exact H_a1.out | exact Kd.S_drewN H_a1.out _) hb); have H_w0 := Aside0.mk (show Kd.R _ _ w4 w.heap.size (fun k_ => w3.heap.size ≤ k_ ∧ k_ < w4.heap.size) v0_ w0 from Kd.R_mono (Kd.R_lower (Kd.R_bound ho0) HB.out.size) (fun k_ hk_ => ⟨hk_.2.1, hk_.2.2.1⟩)); obtain ⟨A_w0, c_w0, e_w0⟩ := Kd.R_slice ho0; subst e_w0; clear ho0; have Z4 := Aside0.mk (show w3.heap.size ≤ w4.heap.size from hb.size); have HB' := Aside0.mk (below_step (by repeat (first | (with_reducible first | exact HB.out | apply below_alloc | apply pw_below_drewN | apply below_drew1) | exact HB.out)) hb); clear HB; have HB := HB'; clear HB'; clear H_a0; clear H_a1; have H_a0 := H_a0'; clear H_a0'; have H_a1 := H_a1'; clear H_a1'; clear H_a0; clear H_a1; clear E5) | (go_at_call 15; (with_reducible refine (laws_toByteS.calls (hr0 := (Kd.C_below HR_l0.out (by repeat (first | (with_reducible first | exact HB.out | apply below_alloc | apply pw_below_drewN | apply below_drew1) | exact HB.out)))) (hc0 := HC_l0.out) (h := E6.out)).mono ?_); rintro e w5 ⟨v0_, rfl, ho0, hb⟩; have H_w0' := Aside0.mk (Kd.R_below (by first | exact H_w0.out | exact Kd.R_drewN H_w0.out _) hb); have H_y0 := Aside0.mk (show Kd.R _ _ w5 w.heap.size (fun k_ => w4.heap.size ≤ k_ ∧ k_ < w5.heap.size) v0_ y0 from Kd.R_mono (Kd.R_lower (Kd.R_bound ho0) HB.out.size) (fun k_ hk_ => ⟨hk_.2.1, hk_.2.2.1⟩)); obtain ⟨A_y0, c_y0, e_y0⟩ := Kd.R_slice ho0; subst e_y0; clear ho0; have Z5 := Aside0.mk (show w4.heap.size ≤ w5.heap.size from hb.size); have HB' := Aside0.mk (below_step (by repeat (first | (with_reducible first | exact HB.out | apply below_alloc | apply pw_below_drewN | apply below_drew1) | exact HB.out)) hb); clear HB; have HB := HB'; clear HB'; clear H_w0; have H_w0 := H_w0'; clear H_w0'; clear E6) | (go_at_call 26; (with_reducible refine (laws_toStepS.calls (hr0 := (Kd.C_below HR_l1.out (by repeat (first | (with_reducible first | exact HB.out | apply below_alloc | apply pw_below_drewN | apply below_drew1) | exact HB.out)))) (hc0 := HC_l1.out) (h := E7.out)).mono ?_); rintro e w6 ⟨v0_, rfl, ho0, hb⟩; have H_w0' := Aside0.mk (Kd.R_below (by first | exact H_w0.out | exact Kd.R_drewN H_w0.out _) hb); have H_y0' := Aside0.mk (Kd.R_below (by first | exact H_y0.out | exact Kd.R_drewN H_y0.out _) hb); have H_y1 := Aside0.mk (show Kd.S _ _ w6 w.heap.size (fun k_ => w5.heap.size ≤ k_ ∧ k_ < w6.heap.size) v0_ y1 from Kd.S_mono (Kd.S_lower (Kd.S_bound ho0) HB.out.size) (fun k_ hk_ => ⟨hk_.2.1, hk_.2.2.1⟩)); obtain ⟨A_y1, c_y1, e_y1⟩ := Kd.S_slice ho0; subst e_y1; clear ho0; have Z6 := Aside0.mk (show w5.heap.size ≤ w6.heap.size from hb.size); have HB' := Aside0.mk (below_step (by repeat (first | (with_reducible first | exact HB.out | apply below_alloc | apply pw_below_drewN | apply below_drew1) | exact HB.out)) hb); clear HB; have HB := HB'; clear HB'; clear H_w0; clear H_y0; have H_w0 := H_w0'; clear H_w0'; have H_y0 := H_y0'; clear H_y0'; clear E7) | (go_at_call 27; (with_reducible refine (impl_ApplyDelta.calls (hr0 := (Kd.R_reads' (by first | exact H_y0.out | exact Kd.R_drewN H_y0.out _)).2.2) (hc0 := (Kd.R_reads' H_y0.out).2.1) (hr1 := (Kd.S_reads' (by first | exact H_y1.out | exact Kd.S_drewN H_y1.out _)).2.2) (hc1 := (Kd.S_reads' H_y1.out).2.1) (h := E8.out)).mono ?_); rintro e w7 ⟨v0_, rfl, ho0, hb⟩; have H_w0' := Aside0.mk (Kd.R_below (by first | exact H_w0.out | exact Kd.R_drewN H_w0.out _) hb); have H_y0' := Aside0.mk (Kd.R_below (by first | exact H_y0.out | exact Kd.R_drewN H_y0.out _) hb); have H_y1' := Aside0.mk (Kd.S_below (by first | exact H_y1.out | exact Kd.S_drewN H_y1.out _) hb); have H_g0 := Aside0.mk (show Kd.R _ _ w7 w.heap.size (fun k_ => w6.heap.size ≤ k_ ∧ k_ < w7.heap.size) v0_ g0 from Kd.R_mono (Kd.R_lower (Kd.R_bound ho0) HB.out.size) (fun k_ hk_ => ⟨hk_.2.1, hk_.2.2.1⟩)); obtain ⟨A_g0, c_g0, e_g0⟩ := Kd.R_slice ho0; subst e_g0; clear ho0; have Z7 := Aside0.mk (show w6.heap.size ≤ w7.heap.size from hb.size); have HB' := Aside0.mk (below_step (by repeat (first | (with_reducible first | exact HB.out | apply below_alloc | apply pw_below_drewN | apply below_drew1) | exact HB.out)) hb); clear HB; have HB := HB'; clear HB'; clear H_w0; clear H_y0; clear H_y1; have H_w0 := H_w0'; clear H_w0'; have H_y0 := H_y0'; clear H_y0'; have H_y1 := H_y1'; clear H_y1'; clear E8) | (go_at_call 18; (with_reducible refine (laws_eqByteS.calls (hr0 := (Kd.R_reads' (by first | exact H_g0.out | exact Kd.R_drewN H_g0.out _)).2.2) (hc0 := (Kd.R_reads' H_g0.out).2.1) (hr1 := (Kd.R_reads' (by first | exact H_w0.out | exact Kd.R_drewN H_w0.out _)).2.2) (hc1 := (Kd.R_reads' H_w0.out).2.1) (h := E9.out)).mono ?_); rintro e w8 ⟨rfl, hd⟩; (first | have hb := below_of hd | have hb := hd); clear hd; have Z8 := Aside0.mk (show w7.heap.size ≤ w8.heap.size from hb.size); have HB' := Aside0.mk (below_step (by repeat (first | (with_reducible first | exact HB.out | apply below_alloc | apply pw_below_drewN | apply below_drew1) | exact HB.out)) hb); clear HB; have HB := HB'; clear HB'; have H_w0' := Aside0.mk (Kd.R_below (by first | exact H_w0.out | exact Kd.R_drewN H_w0.out _) hb); have H_y0' := Aside0.mk (Kd.R_below (by first | exact H_y0.out | exact Kd.R_drewN H_y0.out _) hb); have H_y1' := Aside0.mk (Kd.S_below (by first | exact H_y1.out | exact Kd.S_drewN H_y1.out _) hb); have H_g0' := Aside0.mk (Kd.R_below (by first | exact H_g0.out | exact Kd.R_drewN H_g0.out _) hb); clear H_w0; clear H_y0; clear H_y1; clear H_g0; have H_w0 := H_w0'; clear H_w0'; have H_y0 := H_y0'; clear H_y0'; have H_y1 := H_y1'; clear H_y1'; have H_g0 := H_g0'; clear H_g0'; clear E9) | (go_at_call 15; (with_reducible refine (laws_toByteS.calls (hr0 := (Kd.C_below HR_l0.out (by repeat (first | (with_reducible first | exact HB.out | apply below_alloc | apply pw_below_drewN | apply below_drew1) | exact HB.out)))) (hc0 := HC_l0.out) (h := E12.out)).mono ?_); rintro e w9 ⟨v0_, rfl, ho0, hb⟩; have H_w0' := Aside0.mk (Kd.R_below (by first | exact H_w0.out | exact Kd.R_drewN H_w0.out _) hb); have H_y0' := Aside0.mk (Kd.R_below (by first | exact H_y0.out | exact Kd.R_drewN H_y0.out _) hb); have H_y1' := Aside0.mk (Kd.S_below (by first | exact H_y1.out | exact Kd.S_drewN H_y1.out _) hb); have H_g0' := Aside0.mk (Kd.R_below (by first | exact H_g0.out | exact Kd.R_drewN H_g0.out _) hb); have H_b0 := Aside0.mk (show Kd.R _ _ w9 w.heap.size (fun k_ => w8.heap.size ≤ k_ ∧ k_ < w9.heap.size) v0_ b0 from Kd.R_mono (Kd.R_lower (Kd.R_bound ho0) HB.out.size) (fun k_ hk_ => ⟨hk_.2.1, hk_.2.2.1⟩)); obtain ⟨A_b0, c_b0, e_b0⟩ := Kd.R_slice ho0; subst e_b0; clear ho0; have Z9 := Aside0.mk (show w8.heap.size ≤ w9.heap.size from hb.size); have HB' := Aside0.mk (below_step (by repeat (first | (with_reducible first | exact HB.out | apply below_alloc | apply pw_below_drewN | apply below_drew1) | exact HB.out)) hb); clear HB; have HB := HB'; clear HB'; clear H_w0; clear H_y0; clear H_y1; clear H_g0; have H_w0 := H_w0'; clear H_w0'; have H_y0 := H_y0'; clear H_y0'; have H_y1 := H_y1'; clear H_y1'; have H_g0 := H_g0'; clear H_g0'; clear E12) | (go_at_call 18; (with_reducible refine (laws_eqByteS.calls (hr0 := (Kd.R_reads' (by first | exact H_y0.out | exact Kd.R_drewN H_y0.out _)).2.2) (hc0 := (Kd.R_reads' H_y0.out).2.1) (hr1 := (Kd.R_reads' (by first | exact H_b0.out | exact Kd.R_drewN H_b0.out _)).2.2) (hc1 := (Kd.R_reads' H_b0.out).2.1) (h := E13.out)).mono ?_); rintro e w10 ⟨rfl, hd⟩; (first | have hb := below_of hd | have hb := hd); clear hd; have Z10 := Aside0.mk (show w9.heap.size ≤ w10.heap.size from hb.size); have HB' := Aside0.mk (below_step (by repeat (first | (with_reducible first | exact HB.out | apply below_alloc | apply pw_below_drewN | apply below_drew1) | exact HB.out)) hb); clear HB; have HB := HB'; clear HB'; have H_w0' := Aside0.mk (Kd.R_below (by first | exact H_w0.out | exact Kd.R_drewN H_w0.out _) hb); have H_y0' := Aside0.mk (Kd.R_below (by first | exact H_y0.out | exact Kd.R_drewN H_y0.out _) hb); have H_y1' := Aside0.mk (Kd.S_below (by first | exact H_y1.out | exact Kd.S_drewN H_y1.out _) hb); have H_g0' := Aside0.mk (Kd.R_below (by first | exact H_g0.out | exact Kd.R_drewN H_g0.out _) hb); have H_b0' := Aside0.mk (Kd.R_below (by first | exact H_b0.out | exact Kd.R_drewN H_b0.out _) hb); clear H_w0; clear H_y0; clear H_y1; clear H_g0; clear H_b0; have H_w0 := H_w0'; clear H_w0'; have H_y0 := H_y0'; clear H_y0'; have H_y1 := H_y1'; clear H_y1'; have H_g0 := H_g0'; clear H_g0'; have H_b0 := H_b0'; clear H_b0'; clear H_b0; clear E13) | (go_at_call 26; (with_reducible refine (laws_toStepS.calls (hr0 := (Kd.C_below HR_l1.out (by repeat (first | (with_reducible first | exact HB.out | apply below_alloc | apply pw_below_drewN | apply below_drew1) | exact HB.out)))) (hc0 := HC_l1.out) (h := E15.out)).mono ?_); rintro e w11 ⟨v0_, rfl, ho0, hb⟩; have H_w0' := Aside0.mk (Kd.R_below (by first | exact H_w0.out | exact Kd.R_drewN H_w0.out _) hb); have H_y0' := Aside0.mk (Kd.R_below (by first | exact H_y0.out | exact Kd.R_drewN H_y0.out _) hb); have H_y1' := Aside0.mk (Kd.S_below (by first | exact H_y1.out | exact Kd.S_drewN H_y1.out _) hb); have H_g0' := Aside0.mk (Kd.R_below (by first | exact H_g0.out | exact Kd.R_drewN H_g0.out _) hb); have H_b1 := Aside0.mk (show Kd.S _ _ w11 w.heap.size (fun k_ => w10.heap.size ≤ k_ ∧ k_ < w11.heap.size) v0_ b1 from Kd.S_mono (Kd.S_lower (Kd.S_bound ho0) HB.out.size) (fun k_ hk_ => ⟨hk_.2.1, hk_.2.2.1⟩)); obtain ⟨A_b1, c_b1, e_b1⟩ := Kd.S_slice ho0; subst e_b1; clear ho0; have Z11 := Aside0.mk (show w10.heap.size ≤ w11.heap.size from hb.size); have HB' := Aside0.mk (below_step (by repeat (first | (with_reducible first | exact HB.out | apply below_alloc | apply pw_below_drewN | apply below_drew1) | exact HB.out)) hb); clear HB; have HB := HB'; clear HB'; clear H_w0; clear H_y0; clear H_y1; clear H_g0; have H_w0 := H_w0'; clear H_w0'; have H_y0 := H_y0'; clear H_y0'; have H_y1 := H_y1'; clear H_y1'; have H_g0 := H_g0'; clear H_g0'; clear E15) | (go_at_call 17; (with_reducible refine (laws_eqStepS.calls (hr0 := (Kd.S_reads' (by first | exact H_y1.out | exact Kd.S_drewN H_y1.out _)).2.2) (hc0 := (Kd.S_reads' H_y1.out).2.1) (hr1 := (Kd.S_reads' (by first | exact H_b1.out | exact Kd.S_drewN H_b1.out _)).2.2) (hc1 := (Kd.S_reads' H_b1.out).2.1) (h := E16.out)).mono ?_); rintro e w12 ⟨rfl, hd⟩; (first | have hb := below_of hd | have hb := hd); clear hd; have Z12 := Aside0.mk (show w11.heap.size ≤ w12.heap.size from hb.size); have HB' := Aside0.mk (below_step (by repeat (first | (with_reducible first | exact HB.out | apply below_alloc | apply pw_below_drewN | apply below_drew1) | exact HB.out)) hb); clear HB; have HB := HB'; clear HB'; have H_w0' := Aside0.mk (Kd.R_below (by first | exact H_w0.out | exact Kd.R_drewN H_w0.out _) hb); have H_y0' := Aside0.mk (Kd.R_below (by first | exact H_y0.out | exact Kd.R_drewN H_y0.out _) hb); have H_y1' := Aside0.mk (Kd.S_below (by first | exact H_y1.out | exact Kd.S_drewN H_y1.out _) hb); have H_g0' := Aside0.mk (Kd.R_below (by first | exact H_g0.out | exact Kd.R_drewN H_g0.out _) hb); have H_b1' := Aside0.mk (Kd.S_below (by first | exact H_b1.out | exact Kd.S_drewN H_b1.out _) hb); clear H_w0; clear H_y0; clear H_y1; clear H_g0; clear H_b1; have H_w0 := H_w0'; clear H_w0'; have H_y0 := H_y0'; clear H_y0'; have H_y1 := H_y1'; clear H_y1'; have H_g0 := H_g0'; clear H_g0'; have H_b1 := H_b1'; clear H_b1'; clear H_b1; clear E16) | (go_at_call 19; (with_reducible refine (laws_markByteS.calls (w0 := w) (hB := by repeat (first | (with_reducible first | exact HB.out | apply below_alloc | apply pw_below_drewN | apply below_drew1) | exact HB.out)) (ho0 := by first | exact H_y0.out | exact Kd.R_drewN H_y0.out _) (h := E18.out)).mono ?_); rintro e w13 ⟨rfl, ho, hb0, hk⟩; have hl := (Kd.R_reads' ho).1; have Z13 := Aside0.mk (show w12.heap.size ≤ w13.heap.size from hk.1); have H_w0' := Aside0.mk (Kd.R_kept (by first | exact H_w0.out | exact Kd.R_drewN H_w0.out _) hk (fun k_ h1_ h2_ => by have h1_ : w3.heap.size ≤ k_ ∧ k_ < w4.heap.size := h1_; have h2_ : w4.heap.size ≤ k_ ∧ k_ < w5.heap.size := h2_; have := Z1.out; have := Z2.out; have := Z3.out; have := Z4.out; have := Z5.out; have := Z6.out; have := Z7.out; have := Z8.out; have := Z9.out; have := Z10.out; have := Z11.out; have := Z12.out; have := Z13.out; omega)); have H_y1' := Aside0.mk (Kd.S_kept (by first | exact H_y1.out | exact Kd.S_drewN H_y1.out _) hk (fun k_ h1_ h2_ => by have h1_ : w5.heap.size ≤ k_ ∧ k_ < w6.heap.size := h1_; have h2_ : w4.heap.size ≤ k_ ∧ k_ < w5.heap.size := h2_; have := Z1.out; have := Z2.out; have := Z3.out; have := Z4.out; have := Z5.out; have := Z6.out; have := Z7.out; have := Z8.out; have := Z9.out; have := Z10.out; have := Z11.out; have := Z12.out; have := Z13.out; omega)); have H_g0' := Aside0.mk (Kd.R_kept (by first | exact H_g0.out | exact Kd.R_drewN H_g0.out _) hk (fun k_ h1_ h2_ => by have h1_ : w6.heap.size ≤ k_ ∧ k_ < w7.heap.size := h1_; have h2_ : w4.heap.size ≤ k_ ∧ k_ < w5.heap.size := h2_; have := Z1.out; have := Z2.out; have := Z3.out; have := Z4.out; have := Z5.out; have := Z6.out; have := Z7.out; have := Z8.out; have := Z9.out; have := Z10.out; have := Z11.out; have := Z12.out; have := Z13.out; omega)); have HB' := Aside0.mk hb0; clear HB; have HB := HB'; clear HB' hb0 hk; rw [hl] at ho; have H_y0' := Aside0.mk (Kd.R_bound ho); rw [hl]; clear ho; clear H_w0; clear H_y0; clear H_y1; clear H_g0; have H_w0 := H_w0'; clear H_w0'; have H_z0 := H_y0'; clear H_y0'; have H_y1 := H_y1'; clear H_y1'; have H_g0 := H_g0'; clear H_g0'; clear H_z0; clear E18) | (go_at_call 20; (with_reducible refine (laws_markStepS.calls (w0 := w) (hB := by repeat (first | (with_reducible first | exact HB.out | apply below_alloc | apply pw_below_drewN | apply below_drew1) | exact HB.out)) (ho0 := by first | exact H_y1.out | exact Kd.S_drewN H_y1.out _) (h := E19.out)).mono ?_); rintro e w14 ⟨rfl, ho, hb0, hk⟩; have hl := (Kd.S_reads' ho).1; have Z14 := Aside0.mk (show w13.heap.size ≤ w14.heap.size from hk.1); have H_w0' := Aside0.mk (Kd.R_kept (by first | exact H_w0.out | exact Kd.R_drewN H_w0.out _) hk (fun k_ h1_ h2_ => by have h1_ : w3.heap.size ≤ k_ ∧ k_ < w4.heap.size := h1_; have h2_ : w5.heap.size ≤ k_ ∧ k_ < w6.heap.size := h2_; have := Z1.out; have := Z2.out; have := Z3.out; have := Z4.out; have := Z5.out; have := Z6.out; have := Z7.out; have := Z8.out; have := Z9.out; have := Z10.out; have := Z11.out; have := Z12.out; have := Z13.out; have := Z14.out; omega)); have H_g0' := Aside0.mk (Kd.R_kept (by first | exact H_g0.out | exact Kd.R_drewN H_g0.out _) hk (fun k_ h1_ h2_ => by have h1_ : w6.heap.size ≤ k_ ∧ k_ < w7.heap.size := h1_; have h2_ : w5.heap.size ≤ k_ ∧ k_ < w6.heap.size := h2_; have := Z1.out; have := Z2.out; have := Z3.out; have := Z4.out; have := Z5.out; have := Z6.out; have := Z7.out; have := Z8.out; have := Z9.out; have := Z10.out; have := Z11.out; have := Z12.out; have := Z13.out; have := Z14.out; omega)); have HB' := Aside0.mk hb0; clear HB; have HB := HB'; clear HB' hb0 hk; rw [hl] at ho; have H_y1' := Aside0.mk (Kd.S_bound ho); rw [hl]; clear ho; clear H_w0; clear H_y1; clear H_g0; have H_w0 := H_w0'; clear H_w0'; have H_z1 := H_y1'; clear H_y1'; have H_g0 := H_g0'; clear H_g0'; clear H_z1; clear E19) | (go_at_call 18; (with_reducible refine (laws_eqByteS.calls (hr0 := (Kd.R_reads' (by first | exact H_g0.out | exact Kd.R_drewN H_g0.out _)).2.2) (hc0 := (Kd.R_reads' H_g0.out).2.1) (hr1 := (Kd.R_reads' (by first | exact H_w0.out | exact Kd.R_drewN H_w0.out _)).2.2) (hc1 := (Kd.R_reads' H_w0.out).2.1) (h := E21.out)).mono ?_); rintro e w15 ⟨rfl, hd⟩; (first | have hb := below_of hd | have hb := hd); clear hd; have Z15 := Aside0.mk (show w14.heap.size ≤ w15.heap.size from hb.size); have HB' := Aside0.mk (below_step (by repeat (first | (with_reducible first | exact HB.out | apply below_alloc | apply pw_below_drewN | apply below_drew1) | exact HB.out)) hb); clear HB; have HB := HB'; clear HB'; have H_w0' := Aside0.mk (Kd.R_below (by first | exact H_w0.out | exact Kd.R_drewN H_w0.out _) hb); have H_g0' := Aside0.mk (Kd.R_below (by first | exact H_g0.out | exact Kd.R_drewN H_g0.out _) hb); clear H_w0; clear H_g0; have H_w0 := H_w0'; clear H_w0'; have H_g0 := H_g0'; clear H_g0'; clear E21) | (go_at_call 19; (with_reducible refine (laws_markByteS.calls (w0 := w) (hB := by repeat (first | (with_reducible first | exact HB.out | apply below_alloc | apply pw_below_drewN | apply below_drew1) | exact HB.out)) (ho0 := by first | exact H_g0.out | exact Kd.R_drewN H_g0.out _) (h := E23.out)).mono ?_); rintro e w16 ⟨rfl, ho, hb0, hk⟩; have hl := (Kd.R_reads' ho).1; have Z16 := Aside0.mk (show w15.heap.size ≤ w16.heap.size from hk.1); have H_w0' := Aside0.mk (Kd.R_kept (by first | exact H_w0.out | exact Kd.R_drewN H_w0.out _) hk (fun k_ h1_ h2_ => by have h1_ : w3.heap.size ≤ k_ ∧ k_ < w4.heap.size := h1_; have h2_ : w6.heap.size ≤ k_ ∧ k_ < w7.heap.size := h2_; have := Z1.out; have := Z2.out; have := Z3.out; have := Z4.out; have := Z5.out; have := Z6.out; have := Z7.out; have := Z8.out; have := Z9.out; have := Z10.out; have := Z11.out; have := Z12.out; have := Z13.out; have := Z14.out; have := Z15.out; have := Z16.out; omega)); have HB' := Aside0.mk hb0; clear HB; have HB := HB'; clear HB' hb0 hk; rw [hl] at ho; have H_g0' := Aside0.mk (Kd.R_bound ho); rw [hl]; clear ho; clear H_w0; clear H_g0; have H_w0 := H_w0'; clear H_w0'; have H_e0 := H_g0'; clear H_g0'; clear E23) | (go_at_call 28; (with_reducible refine (laws_heldByteS.calls (hr0 := (Kd.R_reads' (by first | exact H_e0.out | exact Kd.R_drewN H_e0.out _)).2.2) (hc0 := (Kd.R_reads' H_e0.out).2.1) (h := E24.out)).mono ?_); rintro e w17 ⟨rfl, hd⟩; (first | have hb := below_of hd | have hb := hd); clear hd; have Z17 := Aside0.mk (show w16.heap.size ≤ w17.heap.size from hb.size); have HB' := Aside0.mk (below_step (by repeat (first | (with_reducible first | exact HB.out | apply below_alloc | apply pw_below_drewN | apply below_drew1) | exact HB.out)) hb); clear HB; have HB := HB'; clear HB'; have H_w0' := Aside0.mk (Kd.R_below (by first | exact H_w0.out | exact Kd.R_drewN H_w0.out _) hb); have H_e0' := Aside0.mk (Kd.R_below (by first | exact H_e0.out | exact Kd.R_drewN H_e0.out _) hb); clear H_w0; clear H_e0; have H_w0 := H_w0'; clear H_w0'; have H_e0 := H_e0'; clear H_e0'; clear E24) | (go_at_call 15; (with_reducible refine (laws_toByteS.calls (hr0 := (Kd.C_below HR_l0.out (by repeat (first | (with_reducible first | exact HB.out | apply below_alloc | apply pw_below_drewN | apply below_drew1) | exact HB.out)))) (hc0 := HC_l0.out) (h := E27.out)).mono ?_); rintro e w18 ⟨v0_, rfl, ho0, hb⟩; have H_w0' := Aside0.mk (Kd.R_below (by first | exact H_w0.out | exact Kd.R_drewN H_w0.out _) hb); have H_e0' := Aside0.mk (Kd.R_below (by first | exact H_e0.out | exact Kd.R_drewN H_e0.out _) hb); have H_d0 := Aside0.mk (show Kd.R _ _ w18 w.heap.size (fun k_ => w17.heap.size ≤ k_ ∧ k_ < w18.heap.size) v0_ d0 from Kd.R_mono (Kd.R_lower (Kd.R_bound ho0) HB.out.size) (fun k_ hk_ => ⟨hk_.2.1, hk_.2.2.1⟩)); obtain ⟨A_d0, c_d0, e_d0⟩ := Kd.R_slice ho0; subst e_d0; clear ho0; have Z18 := Aside0.mk (show w17.heap.size ≤ w18.heap.size from hb.size); have HB' := Aside0.mk (below_step (by repeat (first | (with_reducible first | exact HB.out | apply below_alloc | apply pw_below_drewN | apply below_drew1) | exact HB.out)) hb); clear HB; have HB := HB'; clear HB'; clear H_w0; clear H_e0; have H_w0 := H_w0'; clear H_w0'; have H_e0 := H_e0'; clear H_e0'; clear E27) | (go_at_call 26; (with_reducible refine (laws_toStepS.calls (hr0 := (Kd.C_below HR_l1.out (by repeat (first | (with_reducible first | exact HB.out | apply below_alloc | apply pw_below_drewN | apply below_drew1) | exact HB.out)))) (hc0 := HC_l1.out) (h := E28.out)).mono ?_); rintro e w19 ⟨v0_, rfl, ho0, hb⟩; have H_w0' := Aside0.mk (Kd.R_below (by first | exact H_w0.out | exact Kd.R_drewN H_w0.out _) hb); have H_e0' := Aside0.mk (Kd.R_below (by first | exact H_e0.out | exact Kd.R_drewN H_e0.out _) hb); have H_d0' := Aside0.mk (Kd.R_below (by first | exact H_d0.out | exact Kd.R_drewN H_d0.out _) hb); have H_d1 := Aside0.mk (show Kd.S _ _ w19 w.heap.size (fun k_ => w18.heap.size ≤ k_ ∧ k_ < w19.heap.size) v0_ d1 from Kd.S_mono (Kd.S_lower (Kd.S_bound ho0) HB.out.size) (fun k_ hk_ => ⟨hk_.2.1, hk_.2.2.1⟩)); obtain ⟨A_d1, c_d1, e_d1⟩ := Kd.S_slice ho0; subst e_d1; clear ho0; have Z19 := Aside0.mk (show w18.heap.size ≤ w19.heap.size from hb.size); have HB' := Aside0.mk (below_step (by repeat (first | (with_reducible first | exact HB.out | apply below_alloc | apply pw_below_drewN | apply below_drew1) | exact HB.out)) hb); clear HB; have HB := HB'; clear HB'; clear H_w0; clear H_e0; clear H_d0; have H_w0 := H_w0'; clear H_w0'; have H_e0 := H_e0'; clear H_e0'; have H_d0 := H_d0'; clear H_d0'; clear E28) | (go_at_call 27; (with_reducible refine (impl_ApplyDelta.calls (hr0 := (Kd.R_reads' (by first | exact H_d0.out | exact Kd.R_drewN H_d0.out _)).2.2) (hc0 := (Kd.R_reads' H_d0.out).2.1) (hr1 := (Kd.S_reads' (by first | exact H_d1.out | exact Kd.S_drewN H_d1.out _)).2.2) (hc1 := (Kd.S_reads' H_d1.out).2.1) (h := E29.out)).mono ?_); rintro e w20 ⟨v0_, rfl, ho0, hb⟩; have H_w0' := Aside0.mk (Kd.R_below (by first | exact H_w0.out | exact Kd.R_drewN H_w0.out _) hb); have H_e0' := Aside0.mk (Kd.R_below (by first | exact H_e0.out | exact Kd.R_drewN H_e0.out _) hb); have H_d0' := Aside0.mk (Kd.R_below (by first | exact H_d0.out | exact Kd.R_drewN H_d0.out _) hb); have H_d1' := Aside0.mk (Kd.S_below (by first | exact H_d1.out | exact Kd.S_drewN H_d1.out _) hb); have H_h0 := Aside0.mk (show Kd.R _ _ w20 w.heap.size (fun k_ => w19.heap.size ≤ k_ ∧ k_ < w20.heap.size) v0_ h0 from Kd.R_mono (Kd.R_lower (Kd.R_bound ho0) HB.out.size) (fun k_ hk_ => ⟨hk_.2.1, hk_.2.2.1⟩)); obtain ⟨A_h0, c_h0, e_h0⟩ := Kd.R_slice ho0; subst e_h0; clear ho0; have Z20 := Aside0.mk (show w19.heap.size ≤ w20.heap.size from hb.size); have HB' := Aside0.mk (below_step (by repeat (first | (with_reducible first | exact HB.out | apply below_alloc | apply pw_below_drewN | apply below_drew1) | exact HB.out)) hb); clear HB; have HB := HB'; clear HB'; clear H_w0; clear H_e0; clear H_d0; clear H_d1; have H_w0 := H_w0'; clear H_w0'; have H_e0 := H_e0'; clear H_e0'; have H_d0 := H_d0'; clear H_d0'; have H_d1 := H_d1'; clear H_d1'; clear H_d0; clear H_d1; clear E29) | (go_at_call 18; (with_reducible refine (laws_eqByteS.calls (hr0 := (Kd.R_reads' (by first | exact H_h0.out | exact Kd.R_drewN H_h0.out _)).2.2) (hc0 := (Kd.R_reads' H_h0.out).2.1) (hr1 := (Kd.R_reads' (by first | exact H_w0.out | exact Kd.R_drewN H_w0.out _)).2.2) (hc1 := (Kd.R_reads' H_w0.out).2.1) (h := E30.out)).mono ?_); rintro e w21 ⟨rfl, hd⟩; (first | have hb := below_of hd | have hb := hd); clear hd; have Z21 := Aside0.mk (show w20.heap.size ≤ w21.heap.size from hb.size); have HB' := Aside0.mk (below_step (by repeat (first | (with_reducible first | exact HB.out | apply below_alloc | apply pw_below_drewN | apply below_drew1) | exact HB.out)) hb); clear HB; have HB := HB'; clear HB'; have H_w0' := Aside0.mk (Kd.R_below (by first | exact H_w0.out | exact Kd.R_drewN H_w0.out _) hb); have H_e0' := Aside0.mk (Kd.R_below (by first | exact H_e0.out | exact Kd.R_drewN H_e0.out _) hb); have H_h0' := Aside0.mk (Kd.R_below (by first | exact H_h0.out | exact Kd.R_drewN H_h0.out _) hb); clear H_w0; clear H_e0; clear H_h0; have H_w0 := H_w0'; clear H_w0'; have H_e0 := H_e0'; clear H_e0'; have H_h0 := H_h0'; clear H_h0'; clear H_w0; clear H_h0; clear E30) | (go_at_call 28; (with_reducible refine (laws_heldByteS.calls (hr0 := (Kd.R_reads' (by first | exact H_e0.out | exact Kd.R_drewN H_e0.out _)).2.2) (hc0 := (Kd.R_reads' H_e0.out).2.1) (h := E33.out)).mono ?_); rintro e w22 ⟨rfl, hd⟩; (first | have hb := below_of hd | have hb := hd); clear hd; have Z22 := Aside0.mk (show w21.heap.size ≤ w22.heap.size from hb.size); have HB' := Aside0.mk (below_step (by repeat (first | (with_reducible first | exact HB.out | apply below_alloc | apply pw_below_drewN | apply below_drew1) | exact HB.out)) hb); clear HB; have HB := HB'; clear HB'; have H_e0' := Aside0.mk (Kd.R_below (by first | exact H_e0.out | exact Kd.R_drewN H_e0.out _) hb); clear H_e0; have H_e0 := H_e0'; clear H_e0'; clear H_e0; clear E33))
  go_ret
  exact ⟨rfl, by repeat (first | (with_reducible first | exact HB.out | apply below_alloc | apply pw_below_drewN | apply below_drew1) | exact HB.out)⟩

/-- THE ONE PURE STATEMENT of laws_FnExactApplyDelta: yours. -/
def laws_FnExactApplyDelta.Pure : Prop := ∀ (l0 : List Int) (l1 : List (S65)), (l0.length ≤ maxLen ∧ ∀ y0 ∈ l0, (Lit.int .u8 y0).wf = true) → (l1.length ≤ maxLen ∧ ∀ y0 ∈ l1, ((Lit.int .i64 y0.f0).wf = true ∧ (Lit.int .i64 y0.f1).wf = true ∧ (Lit.int .i64 y0.f2).wf = true ∧ (y0.f3.length ≤ maxLen ∧ ∀ y1 ∈ y0.f3, (Lit.int .u8 y1).wf = true))) → ∃ k, laws_FnExactApplyDelta.f k l0 l1 = some true
theorem laws_FnExactApplyDelta.walk (P : laws_FnExactApplyDelta.Pure) (A0 : Option Addr) (c0 : Nat) (l0 : List Int) (A1 : Option Addr) (c1 : Nat) (l1 : List (S65)) (w : World) (hr0 : Kd.C (Kd.int .u8) w A0 l0.length l0) (hc0 : l0.length ≤ c0) (hr1 : Kd.C k65 w A1 l1.length l1) (hc1 : l1.length ≤ c1) (ok0 : (l0.length ≤ maxLen ∧ ∀ y0 ∈ l0, (Lit.int .u8 y0).wf = true)) (ok1 : (l1.length ≤ maxLen ∧ ∀ y0 ∈ l1, ((Lit.int .i64 y0.f0).wf = true ∧ (Lit.int .i64 y0.f1).wf = true ∧ (Lit.int .i64 y0.f2).wf = true ∧ (y0.f3.length ≤ maxLen ∧ ∀ y1 ∈ y0.f3, (Lit.int .u8 y1).wf = true)))) :
    Calls Try.prog 5 #[.slice A0 l0.length c0, .slice A1 l1.length c1] w fun e w' => e = .returned (.bool true) ∧ Below w.heap.size w w' := by
  obtain ⟨k, h⟩ := P l0 l1 ok0 ok1
  refine (laws_FnExactApplyDelta.calls k _ _ l0 _ _ l1 true w hr0 hc0 hr1 hc1 h).mono ?_
  rintro e w' ⟨rfl, hd⟩
  exact ⟨rfl, hd⟩
end Go.Proofs.Ytkijlpiiiejjkaa.PFnExactApplyDelta
