-- Laid by a program of this session: a turned copy of the kit's print, with contracts by hand beside.
import Derived.Test.YtkijlpiiiejjkaaPFnExactReadDeltax0
import Derived.Test.YtkijlpiiiejjkaaPFnExactReadDeltax2
namespace Go.Proofs.Ytkijlpiiiejjkaa.PFnExactReadDelta
open Go.RowKit Go.Proofs.YtkijlpiiiejjkaaW.PrintWords Go.Proofs.YtkijlpiiiejjkaaW.PrintLast Go.Proofs.YtkijlpiiiejjkaaW.PrintMore
attribute [local go_sem] max2_int min2_int max_two min_two max_three min_three max_four min_four   -- for this text's walks alone
set_option linter.unusedVariables false
set_option linter.unusedSimpArgs false

/-! ### spec_DeltaBytes: function 29 -/
def spec_DeltaBytes.l0 : Nat → List (S62) → List Int → Int → Option (List Int)
  | 0, _, _, _ => none
  | k + 1, x0, x3, x4 => if x4 < (x0.length : Int) then (if 0 ≤ x4 then ((spec_l14StepOk.f ((rd_T62 x0 x4).f0) ((rd_T62 x0 x4).f1) ((rd_T62 x0 x4).f2) ((rd_T62 x0 x4).f3)).bind fun t136 => (if t136 = true then (if x3.length < 140737488355328 then ((some (x3 ++ [((rd_T62 x0 x4).f0) % 256] : List Int)).bind fun y140 => (if ((rd_T62 x0 x4).f0) = 1 then ((spec_l10Num.f k y140 ((rd_T62 x0 x4).f1)).bind fun t143 => ((spec_l10Num.f k t143 ((rd_T62 x0 x4).f2)).bind fun t146 => (spec_DeltaBytes.l0 k x0 t146 (wrap64 (x4 + 1))))) else ((spec_l10Num.f k y140 (((rd_T62 x0 x4).f3).length : Int)).bind fun t149 => (if t149.length + ((rd_T62 x0 x4).f3).length < 140737488355328 then (spec_DeltaBytes.l0 k x0 (t149 ++ ((rd_T62 x0 x4).f3)) (wrap64 (x4 + 1))) else (none))))) else (none)) else (some (([] : List Int))))) else (none)) else (some x3)
def spec_DeltaBytes.f (k : Nat) (l0 : List (S62)) : Option (List Int) := if (l0.length : Int) > 10000 then (some (([] : List Int))) else (spec_DeltaBytes.l0 k l0 (([76, 68, 84, 49] : List Int)) 0)
theorem spec_DeltaBytes.mono_l : ∀ k, (∀ y0 y1 y2, LeO (spec_DeltaBytes.l0 k y0 y1 y2) (spec_DeltaBytes.l0 (k + 1) y0 y1 y2))
  | 0 => fun _ _ _ r h => by simp [spec_DeltaBytes.l0] at h
  | k + 1 => by
    have ih0 := spec_DeltaBytes.mono_l k
    · intro y0 y1 y2
      unfold spec_DeltaBytes.l0
      repeat' first
      | (with_reducible exact ih0 _ _ _)
      | (with_reducible exact spec_l10Num.mono _ _ _)
      | (with_reducible exact LeO.refl _)
      | (with_reducible exact LeO.none _)
      | (with_reducible refine LeO.ite ?_ ?_)
      | (with_reducible refine LeO.bind ?_ (fun _ => ?_))
      | exact ih0 _ _ _
      | exact spec_l10Num.mono _ _ _
      | exact LeO.none _
      | refine LeO.ite ?_ ?_
      | refine LeO.bind ?_ (fun _ => ?_)
theorem spec_DeltaBytes.mono : ∀ a0 k, LeO (spec_DeltaBytes.f k a0) (spec_DeltaBytes.f (k + 1) a0) := by
  intro a0 k
  have ih0 := spec_DeltaBytes.mono_l k
  unfold spec_DeltaBytes.f
  repeat' first
      | (with_reducible exact ih0 _ _ _)
      | (with_reducible exact spec_l10Num.mono _ _ _)
      | (with_reducible exact LeO.refl _)
      | (with_reducible exact LeO.none _)
      | (with_reducible refine LeO.ite ?_ ?_)
      | (with_reducible refine LeO.bind ?_ (fun _ => ?_))
      | exact ih0 _ _ _
      | exact spec_l10Num.mono _ _ _
      | exact LeO.none _
      | refine LeO.ite ?_ ?_
      | refine LeO.bind ?_ (fun _ => ?_)
def spec_DeltaBytes.T12 : Bool × List (List Nat × List Nat) := (true, [([], []), ([], []), ([1], [1]), ([0, 2], [0, 2]), ([], []), ([4], [4]), ([3, 5, 3], [3, 5]), ([6, 6, 0, 1, 2, 3, 4, 5, 6], [0, 6])])
def spec_DeltaBytes.B12 : List Nat := [0, 0, 2, 7, 0, 16, 63, 127]
theorem spec_DeltaBytes.tab12 : rtab .any (opsOf Try.f29 12) = spec_DeltaBytes.T12 := by kernel_rfl
theorem spec_DeltaBytes.bits12 : waitsOk spec_DeltaBytes.T12.2 spec_DeltaBytes.B12 = true := by kernel_rfl
def spec_DeltaBytes.T13 : Bool × List (List Nat × List Nat) := (true, [([], []), ([], []), ([1], [1]), ([2], [2]), ([0, 3], [0, 3]), ([], []), ([5], [5]), ([4, 6, 4], [4, 6]), ([7, 7, 0, 1, 2, 3, 4, 5, 6, 7], [0, 7])])
def spec_DeltaBytes.B13 : List Nat := [0, 0, 2, 6, 15, 0, 32, 127, 255]
theorem spec_DeltaBytes.tab13 : rtab .any (opsOf Try.f29 13) = spec_DeltaBytes.T13 := by kernel_rfl
theorem spec_DeltaBytes.bits13 : waitsOk spec_DeltaBytes.T13.2 spec_DeltaBytes.B13 = true := by kernel_rfl
set_option maxHeartbeats 8000000 in
set_option maxRecDepth 100000 in
theorem spec_DeltaBytes.callsM (k : Nat) (A0 : Option Addr) (c0 : Nat) (l0 : List (S62)) (r : List Int) (w : World) (hr0 : Kd.C k62 w A0 l0.length l0) (hc0 : l0.length ≤ c0) (h : spec_DeltaBytes.f k l0 = some r) :
    Calls Try.prog 29 #[.slice A0 l0.length c0] w fun e w' => ∃ v0_ : Value, e = .returned (v0_) ∧ Kd.RM 5 w' w.heap.size (fun _ => True) v0_ r ∧ Below w.heap.size w w' := by
  have hu62 := Try.underlying62
  have HR0 := Aside0.mk hr0
  have HC0 := Aside0.mk hc0
  clear hr0 hc0
  have HB := Aside0.mk (Below.refl w.heap.size w)
  have H : (if (l0.length : Int) > 10000 then (some (([] : List Int))) else (spec_DeltaBytes.l0 k l0 (([76, 68, 84, 49] : List Int)) 0)) = some r := h
  clear h
  by_cases c2 : (l0.length : Int) > 10000
  · rw [if_pos c2] at H
    have c2b0 : decide (10000 < (l0.length : Int)) = true := decide_eq_true c2
    have c2b1 : decide (10000 < l0.length) = true := decide_eq_true (by omega)
    clear c2
    obtain ⟨y128, hy128⟩ : ∃ y_ : List Int, y_ = (([] : List Int)) := ⟨_, rfl⟩
    replace H : (some y128) = some r := by first | (rw [hy128]; with_reducible exact H) | (have H2_ := (Option.bind_some _ _).symm.trans H; rw [hy128]; with_reducible exact H2_) | (have H2_ := (Option.bind_some _ _).symm.trans H; with_reducible exact H2_) | with_reducible exact H | (rw [hy128]; exact H) | exact H
    have Ny128 := Aside0.mk hy128
    clear hy128
    obtain rfl := Option.some.inj H
    go_enter Try.func29, Try.ntmps29
    go_wp2_with (first | ((with_reducible refine gate_dst (N := 9) rfl ?_); refine Kd.R_lit (Kd.int .u8) _ 5 ?hg (N := 9) ?hd (xs := ([] : List Int)) (inner := []) (ok := fun _ => True) (okp := fun _ => True) ?hr ?hp (fun _ hk => hk) trivial (Below.refl _ _) (Nat.le_refl _) (by simp) ?_; (case hd => rfl); (case hg => rfl); (case hr => first | (go_simp; done) | (go_simp; rfl)); (case hp => exact (Reps.none _ _)); intro v129 w3 ho4 hb hg_ hnew_; clear hg_ hnew_; (first | rw [← Ny128.out] at ho4 | (simp only [Int.reduceToNat] at ho4; rw [← Ny128.out] at ho4)); have n0_ := Aside0.mk (Kd.R_lower ho4 (below_size (by repeat (first | (with_reducible first | exact HB.out | apply below_alloc | apply pw_below_drewN | apply below_drew1) | exact HB.out)))); have n1_ := Aside0.mk (below_step (by repeat (first | (with_reducible first | exact HB.out | apply below_alloc | apply pw_below_drewN | apply below_drew1) | exact HB.out)) hb); clear HB; have HO130 := n0_; have HB := n1_; clear n0_ n1_; clear hb ho4))
    go_ret
    exact ⟨_, by first | rfl | (simp [errW_none, errW_some] <;> rfl) | (simp [*, errW_none, errW_some] <;> rfl), Kd.RM_of (by (with_reducible repeat (first | apply Kd.R_alloc | apply Kd.R_drewN | apply Kd.R_drew)); exact HO130.out), by repeat (first | (with_reducible first | exact HB.out | apply below_alloc | apply pw_below_drewN | apply below_drew1) | exact HB.out)⟩
  · rw [if_neg c2] at H
    have c2b0 : decide (10000 < (l0.length : Int)) = false := decide_eq_false c2
    have c2b1 : decide (10000 < l0.length) = false := decide_eq_false (by omega)
    clear c2
    obtain ⟨y131, hy131⟩ : ∃ y_ : List Int, y_ = (([76, 68, 84, 49] : List Int)) := ⟨_, rfl⟩
    replace H : (spec_DeltaBytes.l0 k l0 y131 0) = some r := by first | (rw [hy131]; with_reducible exact H) | (have H2_ := (Option.bind_some _ _).symm.trans H; rw [hy131]; with_reducible exact H2_) | (have H2_ := (Option.bind_some _ _).symm.trans H; with_reducible exact H2_) | with_reducible exact H | (rw [hy131]; exact H) | exact H
    have Ny131 := Aside0.mk hy131
    clear hy131
    have H' := Aside0.mk H
    clear H
    go_enter Try.func29, Try.ntmps29
    have kc := fun (w : World) (C : Array Value) (n c : Nat) => Go.Lib.run_convert_bytes_const (P := Try.prog) w 22 5 C n c Try.underlying22 Try.underlying5
    go_wp2
    go_loopg [3, 4] k (fun kq v3 v4 w' => ∃ (x3_1 : List Int) (x4_1 : Int), v4 = .int .i64 x4_1 ∧ Aside0 (spec_DeltaBytes.l0 kq l0 x3_1 x4_1 = some r) ∧ Aside0 (kq ≤ k) ∧ Aside0 (Kd.RM 5 w' w.heap.size (fun _ => True) v3 x3_1) ∧ Aside0 (Below w.heap.size w w'))
    case atStart => exact ⟨(y131), (0), (by first | rfl | (simp; done) | (simp [*]; done)), H', ⟨Nat.le_refl _⟩, ⟨by rw [Ny131.out]; exact Kd.RM_new _ _ _ _ _ (by rfl) (by rfl) (by decide) (by decide)⟩, ⟨by repeat (first | (with_reducible first | exact HB.out | apply below_alloc | apply pw_below_drewN | apply below_drew1) | exact HB.out)⟩⟩
    case round =>
      clear H'
      try clear c2
      try clear c2b0
      try clear c2b1
      try clear p2
      obtain ⟨x3_1, x4_1, rfl, HA, HK1, HO_3, HB⟩ := hrel
      cases gk with
      | zero => exact absurd HA.out (by simp [spec_DeltaBytes.l0])
      | succ k1 =>
        have H := HA.out
        clear HA
        simp only [spec_DeltaBytes.l0] at H
        by_cases c7 : x4_1 < (l0.length : Int)
        · rw [if_pos c7] at H
          have c7b0 : decide (x4_1 < (l0.length : Int)) = true := decide_eq_true c7
          clear c7
          by_cases c8 : 0 ≤ x4_1
          · rw [if_pos c8] at H
            have c8b0 : decide (0 ≤ x4_1) = true := decide_eq_true c8
            clear c8
            replace H := Option.bind_eq_some_iff.mp H
            obtain ⟨t136, A90, H⟩ := H
            replace H : (if t136 = true then (if x3_1.length < 140737488355328 then ((some (x3_1 ++ [((rd_T62 l0 x4_1).f0) % 256] : List Int)).bind fun y140 => (if ((rd_T62 l0 x4_1).f0) = 1 then ((spec_l10Num.f k1 y140 ((rd_T62 l0 x4_1).f1)).bind fun t143 => ((spec_l10Num.f k1 t143 ((rd_T62 l0 x4_1).f2)).bind fun t146 => (spec_DeltaBytes.l0 k1 l0 t146 (wrap64 (x4_1 + 1))))) else ((spec_l10Num.f k1 y140 (((rd_T62 l0 x4_1).f3).length : Int)).bind fun t149 => (if t149.length + ((rd_T62 l0 x4_1).f3).length < 140737488355328 then (spec_DeltaBytes.l0 k1 l0 (t149 ++ ((rd_T62 l0 x4_1).f3)) (wrap64 (x4_1 + 1))) else (none))))) else (none)) else (some (([] : List Int)))) = some r := H
            have A9 := Aside0.mk A90
            clear A90
            by_cases c10 : t136 = true
            · subst c10
              have H1 : (if x3_1.length < 140737488355328 then ((some (x3_1 ++ [((rd_T62 l0 x4_1).f0) % 256] : List Int)).bind fun y140 => (if ((rd_T62 l0 x4_1).f0) = 1 then ((spec_l10Num.f k1 y140 ((rd_T62 l0 x4_1).f1)).bind fun t143 => ((spec_l10Num.f k1 t143 ((rd_T62 l0 x4_1).f2)).bind fun t146 => (spec_DeltaBytes.l0 k1 l0 t146 (wrap64 (x4_1 + 1))))) else ((spec_l10Num.f k1 y140 (((rd_T62 l0 x4_1).f3).length : Int)).bind fun t149 => (if t149.length + ((rd_T62 l0 x4_1).f3).length < 140737488355328 then (spec_DeltaBytes.l0 k1 l0 (t149 ++ ((rd_T62 l0 x4_1).f3)) (wrap64 (x4_1 + 1))) else (none))))) else (none)) = some r := by rw [if_pos rfl] at H; exact H
              clear H
              have H := H1
              clear H1
              by_cases c11 : x3_1.length < 140737488355328
              · rw [if_pos c11] at H
                have LMc11 := Aside0.mk c11
                clear c11
                obtain ⟨y140, hy140⟩ : ∃ y_ : List Int, y_ = (x3_1 ++ [((rd_T62 l0 x4_1).f0) % 256]) := ⟨_, rfl⟩
                replace H : (if ((rd_T62 l0 x4_1).f0) = 1 then ((spec_l10Num.f k1 y140 ((rd_T62 l0 x4_1).f1)).bind fun t143 => ((spec_l10Num.f k1 t143 ((rd_T62 l0 x4_1).f2)).bind fun t146 => (spec_DeltaBytes.l0 k1 l0 t146 (wrap64 (x4_1 + 1))))) else ((spec_l10Num.f k1 y140 (((rd_T62 l0 x4_1).f3).length : Int)).bind fun t149 => (if t149.length + ((rd_T62 l0 x4_1).f3).length < 140737488355328 then (spec_DeltaBytes.l0 k1 l0 (t149 ++ ((rd_T62 l0 x4_1).f3)) (wrap64 (x4_1 + 1))) else (none)))) = some r := by first | (rw [hy140]; with_reducible exact H) | (have H2_ := (Option.bind_some _ _).symm.trans H; rw [hy140]; with_reducible exact H2_) | (have H2_ := (Option.bind_some _ _).symm.trans H; with_reducible exact H2_) | with_reducible exact H | (rw [hy140]; exact H) | exact H
                have Ny140 := Aside0.mk hy140
                clear hy140
                by_cases c12 : ((rd_T62 l0 x4_1).f0) = 1
                · rw [if_pos c12] at H
                  have c12b0 : (((rd_T62 l0 x4_1).f0) == 1) = true := beq_iff_eq.mpr c12
                  have c12b1 : (((rd_T62 l0 x4_1).f0) != 1) = false := bne_eq_false_iff_eq.mpr c12
                  clear c12
                  replace H := Option.bind_eq_some_iff.mp H
                  obtain ⟨t143, A130, H⟩ := H
                  replace H : ((spec_l10Num.f k1 t143 ((rd_T62 l0 x4_1).f2)).bind fun t146 => (spec_DeltaBytes.l0 k1 l0 t146 (wrap64 (x4_1 + 1)))) = some r := H
                  have A13 := Aside0.mk A130
                  clear A130
                  replace H := Option.bind_eq_some_iff.mp H
                  obtain ⟨t146, A140, H⟩ := H
                  replace H : (spec_DeltaBytes.l0 k1 l0 t146 (wrap64 (x4_1 + 1))) = some r := H
                  have A14 := Aside0.mk A140
                  clear A140
                  have H' := Aside0.mk H
                  clear H
                  have p134 : 0 ≤ (x4_1 : Int) := of_decide_eq_true (by first | (with_reducible assumption) | assumption)
                  have q134 : x4_1 < (l0.length : Int) := of_decide_eq_true (by first | (with_reducible assumption) | assumption)
                  obtain ⟨ad134, A134_3, c134_3, e134, hx134_0, hx134_1, hx134_2, hx134_3, hl134_3, hi134_3⟩ := at_T62 HR0.out x4_1 p134 q134
                  cases e134
                  try (replace hx134_0 := (HB.out.cell (World.block_lt_of_cell? w _ hx134_0)).trans hx134_0)
                  try (replace hx134_1 := (HB.out.cell (World.block_lt_of_cell? w _ hx134_1)).trans hx134_1)
                  try (replace hx134_2 := (HB.out.cell (World.block_lt_of_cell? w _ hx134_2)).trans hx134_2)
                  try (replace hx134_3 := (HB.out.cell (World.block_lt_of_cell? w _ hx134_3)).trans hx134_3)
                  have HR134_3 := Aside0.mk hi134_3
                  have HC134_3 := Aside0.mk hl134_3
                  clear hi134_3 hl134_3
                  replace p134 := eq_true p134
                  replace q134 := eq_true q134
                  try go_wp2_with (first | ((with_reducible refine gate_dst (N := 5) rfl ?_); refine box_event ?hg (N := 5) ?hd (cs := #[.int .i64 0, .int .i64 0, .int .i64 0, .slice none 0 0]) (t := 62) ?hr ?_; (case hd => rfl); (case hg => rfl); (case hr => first | (go_simp; done) | (go_simp; rfl)); intro gb135 hg w15 hbox hb; have n0_ := Aside0.mk (Kd.RM_below (by (with_reducible repeat (first | apply Kd.RM_alloc | apply Kd.RM_drewN | apply Kd.RM_drew)); exact HO_3.out) hb); have n1_ := Aside0.mk (below_step (by repeat (first | (with_reducible first | exact HB.out | apply below_alloc | apply pw_below_drewN | apply below_drew1) | exact HB.out)) hb); have n2_ := Aside0.mk (hbox); have n3_ := Aside0.mk ((by rw [hg]; exact (below_size (by repeat (first | (with_reducible first | exact HB.out | apply below_alloc | apply pw_below_drewN | apply below_drew1) | exact HB.out))) : w.heap.size ≤ gb135)); have n4_ := Aside0.mk ((by rw [hg]; exact (below_size (by repeat (first | (with_reducible first | exact HB.out | apply below_alloc | apply pw_below_drewN | apply below_drew1) | exact HB.out))) : w.heap.size ≤ gb135)); clear HO_3; clear HB; have HO_3 := n0_; have HB := n1_; have BK135 := n2_; have GW135 := n3_; have GE135 := n4_; clear n0_ n1_ n2_ n3_ n4_; clear hb hbox hg; have hcz16_0 : w15.cell? ⟨gb135, 0, none⟩ = some (.int .i64 0) := (blk_cell BK135.out 0).trans rfl; have hcz16_1 : w15.cell? ⟨gb135, 1, none⟩ = some (.int .i64 0) := (blk_cell BK135.out 1).trans rfl; have hcz16_2 : w15.cell? ⟨gb135, 2, none⟩ = some (.int .i64 0) := (blk_cell BK135.out 2).trans rfl; have hcz16_3 : w15.cell? ⟨gb135, 3, none⟩ = some (.slice none 0 0) := (blk_cell BK135.out 3).trans rfl; have hfz16_0 := blk_frozen BK135.out 0; have hfz16_1 := blk_frozen BK135.out 1; have hfz16_2 := blk_frozen BK135.out 2; have hfz16_3 := blk_frozen BK135.out 3) | ((with_reducible refine gate_callee (f := 50) rfl ?_); refine goesL_ (some 23) rfl rfl Try.func50 (by kernel_rfl) rfl #[.agg #[.int .i64 ((rd_T62 l0 x4_1).f0), .int .i64 ((rd_T62 l0 x4_1).f1), .int .i64 ((rd_T62 l0 x4_1).f2), .slice A134_3 ((rd_T62 l0 x4_1).f3).length c134_3]] rfl (by (try simp only [List.map_toArray, List.map_cons, List.map_nil]); first | done | rfl | (simp only [List.length_drop, List.length_take]; rfl)) ?_; (with_reducible refine (spec_l14StepOk.calls ((rd_T62 l0 x4_1).f0) ((rd_T62 l0 x4_1).f1) ((rd_T62 l0 x4_1).f2) _ _ ((rd_T62 l0 x4_1).f3) true _ ?side1 ?side2 A9.out).mono ?_); (case side1 => exact Kd.C_below HR134_3.out (by repeat (first | (with_reducible first | exact HB.out | apply below_alloc | apply pw_below_drewN | apply below_drew1 | refine below_set ?_ GE135.out) | exact HB.out))); (case side2 => exact HC134_3.out); rintro e w17 ⟨rfl, hb⟩; refine ⟨_, rfl, ?_⟩; have n0_ := Aside0.mk (Kd.RM_below (by (with_reducible repeat (first | apply Kd.RM_alloc | apply Kd.RM_drewN | apply Kd.RM_drew)); exact (Kd.RM_mono (Kd.RM_far (p := ⟨gb135, 3, none⟩) (Kd.RM_far (p := ⟨gb135, 2, none⟩) (Kd.RM_far (p := ⟨gb135, 1, none⟩) (Kd.RM_far (p := ⟨gb135, 0, none⟩) (Kd.RM_types HO_3.out BK135.out (by decide)) (fun _ hk => hk.2) (.int .i64 ((rd_T62 l0 x4_1).f0))) (fun _ hk => hk.2) (.int .i64 ((rd_T62 l0 x4_1).f1))) (fun _ hk => hk.2) (.int .i64 ((rd_T62 l0 x4_1).f2))) (fun _ hk => hk.2) (.slice A134_3 ((rd_T62 l0 x4_1).f3).length c134_3)) (fun _ h_ => h_.1))) hb); have n1_ := Aside0.mk (blk_below (g := gb135) (o := .cells #[.int .i64 ((rd_T62 l0 x4_1).f0), .int .i64 ((rd_T62 l0 x4_1).f1), .int .i64 ((rd_T62 l0 x4_1).f2), .slice A134_3 ((rd_T62 l0 x4_1).f3).length c134_3] 62 (0, 0)) (by (with_reducible repeat (first | refine blk_drewN ?_ _ | refine blk_drew ?_ | refine blk_alloc ?_ _)); refine blk_put (cs := #[.int .i64 ((rd_T62 l0 x4_1).f0), .int .i64 ((rd_T62 l0 x4_1).f1), .int .i64 ((rd_T62 l0 x4_1).f2), .slice none 0 0]) ?_ 3 _ rfl; (with_reducible repeat (first | refine blk_drewN ?_ _ | refine blk_drew ?_ | refine blk_alloc ?_ _)); refine blk_put (cs := #[.int .i64 ((rd_T62 l0 x4_1).f0), .int .i64 ((rd_T62 l0 x4_1).f1), .int .i64 0, .slice none 0 0]) ?_ 2 _ rfl; (with_reducible repeat (first | refine blk_drewN ?_ _ | refine blk_drew ?_ | refine blk_alloc ?_ _)); refine blk_put (cs := #[.int .i64 ((rd_T62 l0 x4_1).f0), .int .i64 0, .int .i64 0, .slice none 0 0]) ?_ 1 _ rfl; (with_reducible repeat (first | refine blk_drewN ?_ _ | refine blk_drew ?_ | refine blk_alloc ?_ _)); refine blk_put (cs := #[.int .i64 0, .int .i64 0, .int .i64 0, .slice none 0 0]) ?_ 0 _ rfl; (with_reducible repeat (first | refine blk_drewN ?_ _ | refine blk_drew ?_ | refine blk_alloc ?_ _)); exact BK135.out) hb); have n2_ := Aside0.mk (below_step (by repeat (first | (with_reducible first | exact HB.out | apply below_alloc | apply pw_below_drewN | apply below_drew1 | refine below_set ?_ GE135.out) | exact HB.out)) hb); clear HO_3; clear BK135; clear HB; have HO_3 := n0_; have BK135 := n1_; have HB := n2_; clear n0_ n1_ n2_; (try clear hb); (try clear hb2); (try clear hk); (try clear hi); have hcz18_0 : w17.cell? ⟨gb135, 0, none⟩ = some (.int .i64 ((rd_T62 l0 x4_1).f0)) := (blk_cell BK135.out 0).trans rfl; have hcz18_1 : w17.cell? ⟨gb135, 1, none⟩ = some (.int .i64 ((rd_T62 l0 x4_1).f1)) := (blk_cell BK135.out 1).trans rfl; have hcz18_2 : w17.cell? ⟨gb135, 2, none⟩ = some (.int .i64 ((rd_T62 l0 x4_1).f2)) := (blk_cell BK135.out 2).trans rfl; have hcz18_3 : w17.cell? ⟨gb135, 3, none⟩ = some (.slice A134_3 ((rd_T62 l0 x4_1).f3).length c134_3) := (blk_cell BK135.out 3).trans rfl; have hfz18_0 := blk_frozen BK135.out 0; have hfz18_1 := blk_frozen BK135.out 1; have hfz18_2 := blk_frozen BK135.out 2; have hfz18_3 := blk_frozen BK135.out 3) | ((with_reducible refine gate_builtin (b := .append) (xs := #[.tmp 26, .tmp 30]) rfl ?_); at_builtin; refine Kd.RM_append (Kd.int .u8) (w0 := w) w.heap.size rfl (.tmp 26) (.tmp 30) 22 5 (.int .u8 0) 1 rfl Try.underlying22 info5 rfl (by decide) (by omega) u3 x3_1 (((rd_T62 l0 x4_1).f0) % 256) [.int .u8 (((rd_T62 l0 x4_1).f0) % 256)] (fun _ => True) (fun _ => False) rfl rfl ?aP (fun _ hk => hk.elim) ?aF ?aO ?aB ?aS ?aL ?_; (case aP => exact rfl); (case aB => exact (by repeat (first | (with_reducible first | exact HB.out | apply below_alloc | apply pw_below_drewN | apply below_drew1 | refine below_set ?_ GE135.out) | exact HB.out))); (case aF => exact (fun _ _ => trivial)); (case aO => exact (by (with_reducible repeat (first | apply Kd.RM_alloc | apply Kd.RM_drewN | apply Kd.RM_drew)); exact HO_3.out)); (case aS => exact (below_size (by repeat (first | (with_reducible first | exact HB.out | apply below_alloc | apply pw_below_drewN | apply below_drew1 | refine below_set ?_ GE135.out) | exact HB.out)))); (case aL => have := LMc11.out; omega); intro v141 w19 ho hb hg hat; rw [← Ny140.out] at ho; have n0_ := Aside0.mk (blk_grown (g := gb135) (o := .cells #[.int .i64 ((rd_T62 l0 x4_1).f0), .int .i64 ((rd_T62 l0 x4_1).f1), .int .i64 ((rd_T62 l0 x4_1).f2), .slice A134_3 ((rd_T62 l0 x4_1).f3).length c134_3] 62 (0, 0)) (by (with_reducible repeat (first | refine blk_drewN ?_ _ | refine blk_drew ?_ | refine blk_alloc ?_ _)); exact BK135.out) hg (Kd.RM_ne HO_3.out BK135.out (by decide))); have n1_ := Aside0.mk (hb); have n2_ := Aside0.mk (ho); clear BK135; clear HB; clear HO_3; have BK135 := n0_; have HB := n1_; have HO142 := n2_; clear n0_ n1_ n2_; clear ho hb hg hat; have hcz20_0 : w19.cell? ⟨gb135, 0, none⟩ = some (.int .i64 ((rd_T62 l0 x4_1).f0)) := (blk_cell BK135.out 0).trans rfl; have hcz20_1 : w19.cell? ⟨gb135, 1, none⟩ = some (.int .i64 ((rd_T62 l0 x4_1).f1)) := (blk_cell BK135.out 1).trans rfl; have hcz20_2 : w19.cell? ⟨gb135, 2, none⟩ = some (.int .i64 ((rd_T62 l0 x4_1).f2)) := (blk_cell BK135.out 2).trans rfl; have hcz20_3 : w19.cell? ⟨gb135, 3, none⟩ = some (.slice A134_3 ((rd_T62 l0 x4_1).f3).length c134_3) := (blk_cell BK135.out 3).trans rfl; have hfz20_0 := blk_frozen BK135.out 0; have hfz20_1 := blk_frozen BK135.out 1; have hfz20_2 := blk_frozen BK135.out 2; have hfz20_3 := blk_frozen BK135.out 3))
                  have n0_ := Aside0.mk (Kd.R_drew HO142.out)
                  have n1_ := Aside0.mk (blk_drew BK135.out)
                  have n2_ := Aside0.mk (below_drew1 HB.out)
                  clear HO142
                  clear BK135
                  clear HB
                  have HO142 := n0_
                  have BK135 := n1_
                  have HB := n2_
                  clear n0_ n1_ n2_
                  obtain ⟨Ao22, co22, eo22⟩ := Kd.R_slice HO142.out
                  (first | subst eo22 | (injection eo22 with f1_ f2_ f3_; have f4_ := f1_.symm; have f5_ := f3_.symm; clear f1_ f2_ f3_; subst f4_; subst f5_))
                  refine start_ (n := 8) (S := fun w' => w'.cell? ⟨gb135, 0, none⟩ = some (.int .i64 ((rd_T62 l0 x4_1).f0)) ∧ w'.cell? ⟨gb135, 1, none⟩ = some (.int .i64 ((rd_T62 l0 x4_1).f1)) ∧ w'.cell? ⟨gb135, 2, none⟩ = some (.int .i64 ((rd_T62 l0 x4_1).f2)) ∧ w'.cell? ⟨gb135, 3, none⟩ = some (.slice A134_3 ((rd_T62 l0 x4_1).f3).length c134_3)) (ds := []) #[false, false, false, false, false, false, false, false] (by kernel_rfl) rfl rfl ⟨(blk_cell BK135.out 0).trans rfl, (blk_cell BK135.out 1).trans rfl, (blk_cell BK135.out 2).trans rfl, (blk_cell BK135.out 3).trans rfl⟩ (fun hHeld => ?_); refine with_tabW spec_DeltaBytes.tab12 spec_DeltaBytes.bits12 (fun HT_ HW_ => ?_)
                  generalize w19.drew = w21 at HO142 BK135 HB hHeld ⊢
                  refine pure_ (i := 0) (N := some 35) (v := ?_) (a' := ?_) #[true, false, false, false, false, false, false, false] rfl rfl (any_of HT_.out (by kernel_rfl)) (fun _ _ _ h => h) (Or.inl ⟨by rfl, ?_⟩) ?_ ?_
                  rotate_left
                  · intro w'
                    go_simp
                    with_reducible rfl
                  rotate_left
                  · simp only [Act.put, List.setIfInBounds_toArray, List.set_cons_zero, List.set_cons_succ, i64_w, i32_w]
                    rfl
                  refine pure_ (i := 1) (N := some 36) (v := ?_) (a' := ?_) #[true, true, false, false, false, false, false, false] rfl rfl (any_of HT_.out (by kernel_rfl)) (fun _ _ _ h => h) (Or.inl ⟨by rfl, ?_⟩) ?_ ?_
                  rotate_left
                  · intro w'
                    go_simp
                    with_reducible rfl
                  rotate_left
                  · simp only [Act.put, List.setIfInBounds_toArray, List.set_cons_zero, List.set_cons_succ, i64_w, i32_w]
                    rfl
                  refine pure_ (i := 4) (N := some 39) (v := ?_) (a' := ?_) #[true, true, false, false, true, false, false, false] rfl rfl (any_of HT_.out (by kernel_rfl)) (fun _ _ _ h => h) (Or.inl ⟨by rfl, ?_⟩) ?_ ?_
                  rotate_left
                  · intro w'
                    go_simp
                    with_reducible rfl
                  rotate_left
                  · simp only [Act.put, List.setIfInBounds_toArray, List.set_cons_zero, List.set_cons_succ, i64_w, i32_w]
                    rfl
                  refine take_ (i := 2) (N := some 37) (v := ?_) (a' := ?_) #[true, true, true, false, true, false, false, false] rfl rfl (take_ofW HT_.out HW_.out (by kernel_rfl)) (fun _ _ _ h => h) (Or.inl ⟨by rfl, ?_⟩) hHeld ?_ ?_
                  rotate_left
                  · rintro w' ⟨s0, s1, s2, s3⟩
                    go_simp
                    with_reducible rfl
                  rotate_left
                  · simp only [Act.put, List.setIfInBounds_toArray, List.set_cons_zero, List.set_cons_succ, i64_w, i32_w]
                    rfl
                  refine take_ (i := 5) (N := some 40) (v := ?_) (a' := ?_) #[true, true, true, false, true, true, false, false] rfl rfl (take_ofW HT_.out HW_.out (by kernel_rfl)) (fun _ _ _ h => h) (Or.inl ⟨by rfl, ?_⟩) hHeld ?_ ?_
                  rotate_left
                  · rintro w' ⟨s0, s1, s2, s3⟩
                    go_simp
                    with_reducible rfl
                  rotate_left
                  · simp only [Act.put, List.setIfInBounds_toArray, List.set_cons_zero, List.set_cons_succ, i64_w, i32_w]
                    rfl
                  refine one_ (i := 3) (N := some 38) #[true, true, true, true, true, true, false, false] rfl rfl (one_of HT_.out (by kernel_rfl)) (by decide) (fun K hK => ?_)
                  refine goes_ Try.func53 (by kernel_rfl) rfl #[.slice Ao22 y140.length co22, .int .i64 ((rd_T62 l0 x4_1).f1)] (by rfl) rfl rfl (by (try simp only [List.map_toArray, List.map_cons, List.map_nil]); first | done | rfl | (simp only [List.length_drop, List.length_take]; rfl)) ?_
                  with_reducible refine (spec_l10Num.calls k1 (fun k_ => some k_ = (.slice Ao22 y140.length co22 : Value).ownBlock) (.slice Ao22 y140.length co22) y140 ((rd_T62 l0 x4_1).f1) t143 w _ ?side1 ?side2 A13.out).mono ?_
                  (case side1 => repeat (first | (with_reducible first | exact HB.out | apply below_alloc | apply pw_below_drewN | apply below_drew1 | refine below_set ?_ GE135.out) | exact HB.out))
                  (case side2 => exact Kd.R_tight rfl HO142.out)
                  rintro e w23 ⟨v144, rfl, ho0, hb, hkp⟩
                  refine ⟨_, rfl, ?_⟩
                  have n0_ := Aside0.mk (blk_kept (by (with_reducible repeat (first | refine blk_drewN ?_ _ | refine blk_drew ?_ | refine blk_alloc ?_ _)); exact BK135.out) hkp (fun hs_ => (fun e_ => (Kd.R_ne HO142.out BK135.out (by decide)) e_) hs_))
                  have n1_ := Aside0.mk (Kd.R_mono (ok' := fun k_ => True) ho0 (fun k_ hk_ => trivial))
                  have n2_ := Aside0.mk (hb)
                  clear BK135
                  clear HB
                  clear HO142
                  have BK135 := n0_
                  have HO145 := n1_
                  have HB := n2_
                  clear n0_ n1_ n2_
                  (try clear hb)
                  (try clear hkp)
                  (try clear ho0)
                  obtain ⟨Ao24, co24, eo24⟩ := Kd.R_slice HO145.out
                  (first | subst eo24 | (injection eo24 with f1_ f2_ f3_; have f4_ := f1_.symm; have f5_ := f3_.symm; clear f1_ f2_ f3_; subst f4_; subst f5_))
                  refine hK.out _ _ ⟨(blk_cell BK135.out 0).trans rfl, (blk_cell BK135.out 1).trans rfl, (blk_cell BK135.out 2).trans rfl, (blk_cell BK135.out 3).trans rfl⟩ (fun hHeld => ?_)
                  clear hK K
                  refine norm_ (a' := ?_) ?_ ?_
                  rotate_left
                  · show Act.put _ (some 38) _ = _
                    simp only [Act.put, List.setIfInBounds_toArray, List.set_cons_zero, List.set_cons_succ, i64_w, i32_w]
                    rfl
                  refine one_ (i := 6) (N := some 41) #[true, true, true, true, true, true, true, false] rfl rfl (one_of HT_.out (by kernel_rfl)) (by decide) (fun K hK => ?_)
                  refine goes_ Try.func53 (by kernel_rfl) rfl #[.slice Ao24 t143.length co24, .int .i64 ((rd_T62 l0 x4_1).f2)] (by rfl) rfl rfl (by (try simp only [List.map_toArray, List.map_cons, List.map_nil]); first | done | rfl | (simp only [List.length_drop, List.length_take]; rfl)) ?_
                  with_reducible refine (spec_l10Num.calls k1 (fun k_ => some k_ = (.slice Ao24 t143.length co24 : Value).ownBlock) (.slice Ao24 t143.length co24) t143 ((rd_T62 l0 x4_1).f2) t146 w _ ?side1 ?side2 A14.out).mono ?_
                  (case side1 => repeat (first | (with_reducible first | exact HB.out | apply below_alloc | apply pw_below_drewN | apply below_drew1 | refine below_set ?_ GE135.out) | exact HB.out))
                  (case side2 => exact Kd.R_tight rfl HO145.out)
                  rintro e w25 ⟨v147, rfl, ho0, hb, hkp⟩
                  refine ⟨_, rfl, ?_⟩
                  have n0_ := Aside0.mk (blk_kept (by (with_reducible repeat (first | refine blk_drewN ?_ _ | refine blk_drew ?_ | refine blk_alloc ?_ _)); exact BK135.out) hkp (fun hs_ => (fun e_ => (Kd.R_ne HO145.out BK135.out (by decide)) e_) hs_))
                  have n1_ := Aside0.mk (Kd.R_mono (ok' := fun k_ => True) ho0 (fun k_ hk_ => trivial))
                  have n2_ := Aside0.mk (hb)
                  clear BK135
                  clear HB
                  clear HO145
                  have BK135 := n0_
                  have HO148 := n1_
                  have HB := n2_
                  clear n0_ n1_ n2_
                  (try clear hb)
                  (try clear hkp)
                  (try clear ho0)
                  refine hK.out _ _ ⟨(blk_cell BK135.out 0).trans rfl, (blk_cell BK135.out 1).trans rfl, (blk_cell BK135.out 2).trans rfl, (blk_cell BK135.out 3).trans rfl⟩ (fun hHeld => ?_)
                  clear hK K
                  refine norm_ (a' := ?_) ?_ ?_
                  rotate_left
                  · show Act.put _ (some 41) _ = _
                    simp only [Act.put, List.setIfInBounds_toArray, List.set_cons_zero, List.set_cons_succ, i64_w, i32_w]
                    rfl
                  refine pure_ (i := 7) (N := some 3) (v := ?_) (a' := ?_) #[true, true, true, true, true, true, true, true] rfl rfl (any_of HT_.out (by kernel_rfl)) (fun _ _ _ h => h) (Or.inl ⟨by rfl, ?_⟩) ?_ ?_
                  rotate_left
                  · intro w'
                    go_simp
                    with_reducible rfl
                  rotate_left
                  · simp only [Act.put, List.setIfInBounds_toArray, List.set_cons_zero, List.set_cons_succ, i64_w, i32_w]
                    rfl
                  refine done_ (done_of HT_.out (by kernel_rfl)) ?_
                  try go_wp2
                  go_roundg k1
                  case measure => have := HK1.out; omega
                  case rel => exact ⟨(t146), (wrap64 (x4_1 + 1)), (by first | rfl | (simp; done) | (simp [*]; done)), H', ⟨by have := HK1.out; omega⟩, ⟨Kd.RM_of (by (with_reducible repeat (first | apply Kd.R_alloc | apply Kd.R_drewN | apply Kd.R_drew)); exact HO148.out)⟩, ⟨by repeat (first | (with_reducible first | exact HB.out | apply below_alloc | apply pw_below_drewN | apply below_drew1 | refine below_set ?_ GE135.out) | exact HB.out)⟩⟩
                · rw [if_neg c12] at H
                  have c12b0 : (((rd_T62 l0 x4_1).f0) == 1) = false := beq_eq_false_iff_ne.mpr c12
                  have c12b1 : (((rd_T62 l0 x4_1).f0) != 1) = true := bne_iff_ne.mpr c12
                  replace H := Option.bind_eq_some_iff.mp H
                  obtain ⟨t149, A260, H⟩ := H
                  replace H : (if t149.length + ((rd_T62 l0 x4_1).f3).length < 140737488355328 then (spec_DeltaBytes.l0 k1 l0 (t149 ++ ((rd_T62 l0 x4_1).f3)) (wrap64 (x4_1 + 1))) else (none)) = some r := H
                  have A26 := Aside0.mk A260
                  clear A260
                  by_cases c27 : t149.length + ((rd_T62 l0 x4_1).f3).length < 140737488355328
                  · rw [if_pos c27] at H
                    have LMc27 := Aside0.mk c27
                    clear c27
                    obtain ⟨y152, hy152⟩ : ∃ y_ : List Int, y_ = (t149 ++ ((rd_T62 l0 x4_1).f3)) := ⟨_, rfl⟩
                    replace H : (spec_DeltaBytes.l0 k1 l0 y152 (wrap64 (x4_1 + 1))) = some r := by first | (rw [hy152]; with_reducible exact H) | (have H2_ := (Option.bind_some _ _).symm.trans H; rw [hy152]; with_reducible exact H2_) | (have H2_ := (Option.bind_some _ _).symm.trans H; with_reducible exact H2_) | with_reducible exact H | (rw [hy152]; exact H) | exact H
                    have Ny152 := Aside0.mk hy152
                    clear hy152
                    have H' := Aside0.mk H
                    clear H
                    have p134 : 0 ≤ (x4_1 : Int) := of_decide_eq_true (by first | (with_reducible assumption) | assumption)
                    have q134 : x4_1 < (l0.length : Int) := of_decide_eq_true (by first | (with_reducible assumption) | assumption)
                    obtain ⟨ad134, A134_3, c134_3, e134, hx134_0, hx134_1, hx134_2, hx134_3, hl134_3, hi134_3⟩ := at_T62 HR0.out x4_1 p134 q134
                    cases e134
                    try (replace hx134_0 := (HB.out.cell (World.block_lt_of_cell? w _ hx134_0)).trans hx134_0)
                    try (replace hx134_1 := (HB.out.cell (World.block_lt_of_cell? w _ hx134_1)).trans hx134_1)
                    try (replace hx134_2 := (HB.out.cell (World.block_lt_of_cell? w _ hx134_2)).trans hx134_2)
                    try (replace hx134_3 := (HB.out.cell (World.block_lt_of_cell? w _ hx134_3)).trans hx134_3)
                    have HR134_3 := Aside0.mk hi134_3
                    have HC134_3 := Aside0.mk hl134_3
                    clear hi134_3 hl134_3
                    replace p134 := eq_true p134
                    replace q134 := eq_true q134
                    try go_wp2_with (first | ((with_reducible refine gate_dst (N := 5) rfl ?_); refine box_event ?hg (N := 5) ?hd (cs := #[.int .i64 0, .int .i64 0, .int .i64 0, .slice none 0 0]) (t := 62) ?hr ?_; (case hd => rfl); (case hg => rfl); (case hr => first | (go_simp; done) | (go_simp; rfl)); intro gb135 hg w28 hbox hb; have n0_ := Aside0.mk (Kd.RM_below (by (with_reducible repeat (first | apply Kd.RM_alloc | apply Kd.RM_drewN | apply Kd.RM_drew)); exact HO_3.out) hb); have n1_ := Aside0.mk (below_step (by repeat (first | (with_reducible first | exact HB.out | apply below_alloc | apply pw_below_drewN | apply below_drew1) | exact HB.out)) hb); have n2_ := Aside0.mk (hbox); have n3_ := Aside0.mk ((by rw [hg]; exact (below_size (by repeat (first | (with_reducible first | exact HB.out | apply below_alloc | apply pw_below_drewN | apply below_drew1) | exact HB.out))) : w.heap.size ≤ gb135)); have n4_ := Aside0.mk ((by rw [hg]; exact (below_size (by repeat (first | (with_reducible first | exact HB.out | apply below_alloc | apply pw_below_drewN | apply below_drew1) | exact HB.out))) : w.heap.size ≤ gb135)); clear HO_3; clear HB; have HO_3 := n0_; have HB := n1_; have BK135 := n2_; have GW135 := n3_; have GE135 := n4_; clear n0_ n1_ n2_ n3_ n4_; clear hb hbox hg; have hcz29_0 : w28.cell? ⟨gb135, 0, none⟩ = some (.int .i64 0) := (blk_cell BK135.out 0).trans rfl; have hcz29_1 : w28.cell? ⟨gb135, 1, none⟩ = some (.int .i64 0) := (blk_cell BK135.out 1).trans rfl; have hcz29_2 : w28.cell? ⟨gb135, 2, none⟩ = some (.int .i64 0) := (blk_cell BK135.out 2).trans rfl; have hcz29_3 : w28.cell? ⟨gb135, 3, none⟩ = some (.slice none 0 0) := (blk_cell BK135.out 3).trans rfl; have hfz29_0 := blk_frozen BK135.out 0; have hfz29_1 := blk_frozen BK135.out 1; have hfz29_2 := blk_frozen BK135.out 2; have hfz29_3 := blk_frozen BK135.out 3) | ((with_reducible refine gate_callee (f := 50) rfl ?_); refine goesL_ (some 23) rfl rfl Try.func50 (by kernel_rfl) rfl #[.agg #[.int .i64 ((rd_T62 l0 x4_1).f0), .int .i64 ((rd_T62 l0 x4_1).f1), .int .i64 ((rd_T62 l0 x4_1).f2), .slice A134_3 ((rd_T62 l0 x4_1).f3).length c134_3]] rfl (by (try simp only [List.map_toArray, List.map_cons, List.map_nil]); first | done | rfl | (simp only [List.length_drop, List.length_take]; rfl)) ?_; (with_reducible refine (spec_l14StepOk.calls ((rd_T62 l0 x4_1).f0) ((rd_T62 l0 x4_1).f1) ((rd_T62 l0 x4_1).f2) _ _ ((rd_T62 l0 x4_1).f3) true _ ?side1 ?side2 A9.out).mono ?_); (case side1 => exact Kd.C_below HR134_3.out (by repeat (first | (with_reducible first | exact HB.out | apply below_alloc | apply pw_below_drewN | apply below_drew1 | refine below_set ?_ GE135.out) | exact HB.out))); (case side2 => exact HC134_3.out); rintro e w30 ⟨rfl, hb⟩; refine ⟨_, rfl, ?_⟩; have n0_ := Aside0.mk (Kd.RM_below (by (with_reducible repeat (first | apply Kd.RM_alloc | apply Kd.RM_drewN | apply Kd.RM_drew)); exact (Kd.RM_mono (Kd.RM_far (p := ⟨gb135, 3, none⟩) (Kd.RM_far (p := ⟨gb135, 2, none⟩) (Kd.RM_far (p := ⟨gb135, 1, none⟩) (Kd.RM_far (p := ⟨gb135, 0, none⟩) (Kd.RM_types HO_3.out BK135.out (by decide)) (fun _ hk => hk.2) (.int .i64 ((rd_T62 l0 x4_1).f0))) (fun _ hk => hk.2) (.int .i64 ((rd_T62 l0 x4_1).f1))) (fun _ hk => hk.2) (.int .i64 ((rd_T62 l0 x4_1).f2))) (fun _ hk => hk.2) (.slice A134_3 ((rd_T62 l0 x4_1).f3).length c134_3)) (fun _ h_ => h_.1))) hb); have n1_ := Aside0.mk (blk_below (g := gb135) (o := .cells #[.int .i64 ((rd_T62 l0 x4_1).f0), .int .i64 ((rd_T62 l0 x4_1).f1), .int .i64 ((rd_T62 l0 x4_1).f2), .slice A134_3 ((rd_T62 l0 x4_1).f3).length c134_3] 62 (0, 0)) (by (with_reducible repeat (first | refine blk_drewN ?_ _ | refine blk_drew ?_ | refine blk_alloc ?_ _)); refine blk_put (cs := #[.int .i64 ((rd_T62 l0 x4_1).f0), .int .i64 ((rd_T62 l0 x4_1).f1), .int .i64 ((rd_T62 l0 x4_1).f2), .slice none 0 0]) ?_ 3 _ rfl; (with_reducible repeat (first | refine blk_drewN ?_ _ | refine blk_drew ?_ | refine blk_alloc ?_ _)); refine blk_put (cs := #[.int .i64 ((rd_T62 l0 x4_1).f0), .int .i64 ((rd_T62 l0 x4_1).f1), .int .i64 0, .slice none 0 0]) ?_ 2 _ rfl; (with_reducible repeat (first | refine blk_drewN ?_ _ | refine blk_drew ?_ | refine blk_alloc ?_ _)); refine blk_put (cs := #[.int .i64 ((rd_T62 l0 x4_1).f0), .int .i64 0, .int .i64 0, .slice none 0 0]) ?_ 1 _ rfl; (with_reducible repeat (first | refine blk_drewN ?_ _ | refine blk_drew ?_ | refine blk_alloc ?_ _)); refine blk_put (cs := #[.int .i64 0, .int .i64 0, .int .i64 0, .slice none 0 0]) ?_ 0 _ rfl; (with_reducible repeat (first | refine blk_drewN ?_ _ | refine blk_drew ?_ | refine blk_alloc ?_ _)); exact BK135.out) hb); have n2_ := Aside0.mk (below_step (by repeat (first | (with_reducible first | exact HB.out | apply below_alloc | apply pw_below_drewN | apply below_drew1 | refine below_set ?_ GE135.out) | exact HB.out)) hb); clear HO_3; clear BK135; clear HB; have HO_3 := n0_; have BK135 := n1_; have HB := n2_; clear n0_ n1_ n2_; (try clear hb); (try clear hb2); (try clear hk); (try clear hi); have hcz31_0 : w30.cell? ⟨gb135, 0, none⟩ = some (.int .i64 ((rd_T62 l0 x4_1).f0)) := (blk_cell BK135.out 0).trans rfl; have hcz31_1 : w30.cell? ⟨gb135, 1, none⟩ = some (.int .i64 ((rd_T62 l0 x4_1).f1)) := (blk_cell BK135.out 1).trans rfl; have hcz31_2 : w30.cell? ⟨gb135, 2, none⟩ = some (.int .i64 ((rd_T62 l0 x4_1).f2)) := (blk_cell BK135.out 2).trans rfl; have hcz31_3 : w30.cell? ⟨gb135, 3, none⟩ = some (.slice A134_3 ((rd_T62 l0 x4_1).f3).length c134_3) := (blk_cell BK135.out 3).trans rfl; have hfz31_0 := blk_frozen BK135.out 0; have hfz31_1 := blk_frozen BK135.out 1; have hfz31_2 := blk_frozen BK135.out 2; have hfz31_3 := blk_frozen BK135.out 3) | ((with_reducible refine gate_builtin (b := .append) (xs := #[.tmp 26, .tmp 30]) rfl ?_); at_builtin; refine Kd.RM_append (Kd.int .u8) (w0 := w) w.heap.size rfl (.tmp 26) (.tmp 30) 22 5 (.int .u8 0) 1 rfl Try.underlying22 info5 rfl (by decide) (by omega) u3 x3_1 (((rd_T62 l0 x4_1).f0) % 256) [.int .u8 (((rd_T62 l0 x4_1).f0) % 256)] (fun _ => True) (fun _ => False) rfl rfl ?aP (fun _ hk => hk.elim) ?aF ?aO ?aB ?aS ?aL ?_; (case aP => exact rfl); (case aB => exact (by repeat (first | (with_reducible first | exact HB.out | apply below_alloc | apply pw_below_drewN | apply below_drew1 | refine below_set ?_ GE135.out) | exact HB.out))); (case aF => exact (fun _ _ => trivial)); (case aO => exact (by (with_reducible repeat (first | apply Kd.RM_alloc | apply Kd.RM_drewN | apply Kd.RM_drew)); exact HO_3.out)); (case aS => exact (below_size (by repeat (first | (with_reducible first | exact HB.out | apply below_alloc | apply pw_below_drewN | apply below_drew1 | refine below_set ?_ GE135.out) | exact HB.out)))); (case aL => have := LMc11.out; omega); intro v141 w32 ho hb hg hat; rw [← Ny140.out] at ho; have n0_ := Aside0.mk (blk_grown (g := gb135) (o := .cells #[.int .i64 ((rd_T62 l0 x4_1).f0), .int .i64 ((rd_T62 l0 x4_1).f1), .int .i64 ((rd_T62 l0 x4_1).f2), .slice A134_3 ((rd_T62 l0 x4_1).f3).length c134_3] 62 (0, 0)) (by (with_reducible repeat (first | refine blk_drewN ?_ _ | refine blk_drew ?_ | refine blk_alloc ?_ _)); exact BK135.out) hg (Kd.RM_ne HO_3.out BK135.out (by decide))); have n1_ := Aside0.mk (hb); have n2_ := Aside0.mk (ho); clear BK135; clear HB; clear HO_3; have BK135 := n0_; have HB := n1_; have HO142 := n2_; clear n0_ n1_ n2_; clear ho hb hg hat; have hcz33_0 : w32.cell? ⟨gb135, 0, none⟩ = some (.int .i64 ((rd_T62 l0 x4_1).f0)) := (blk_cell BK135.out 0).trans rfl; have hcz33_1 : w32.cell? ⟨gb135, 1, none⟩ = some (.int .i64 ((rd_T62 l0 x4_1).f1)) := (blk_cell BK135.out 1).trans rfl; have hcz33_2 : w32.cell? ⟨gb135, 2, none⟩ = some (.int .i64 ((rd_T62 l0 x4_1).f2)) := (blk_cell BK135.out 2).trans rfl; have hcz33_3 : w32.cell? ⟨gb135, 3, none⟩ = some (.slice A134_3 ((rd_T62 l0 x4_1).f3).length c134_3) := (blk_cell BK135.out 3).trans rfl; have hfz33_0 := blk_frozen BK135.out 0; have hfz33_1 := blk_frozen BK135.out 1; have hfz33_2 := blk_frozen BK135.out 2; have hfz33_3 := blk_frozen BK135.out 3))
                    have n0_ := Aside0.mk (Kd.R_drew HO142.out)
                    have n1_ := Aside0.mk (blk_drew BK135.out)
                    have n2_ := Aside0.mk (below_drew1 HB.out)
                    clear HO142
                    clear BK135
                    clear HB
                    have HO142 := n0_
                    have BK135 := n1_
                    have HB := n2_
                    clear n0_ n1_ n2_
                    obtain ⟨Ao35, co35, eo35⟩ := Kd.R_slice HO142.out
                    (first | subst eo35 | (injection eo35 with f1_ f2_ f3_; have f4_ := f1_.symm; have f5_ := f3_.symm; clear f1_ f2_ f3_; subst f4_; subst f5_))
                    refine start_ (n := 9) (S := fun w' => w'.cell? ⟨gb135, 0, none⟩ = some (.int .i64 ((rd_T62 l0 x4_1).f0)) ∧ w'.cell? ⟨gb135, 1, none⟩ = some (.int .i64 ((rd_T62 l0 x4_1).f1)) ∧ w'.cell? ⟨gb135, 2, none⟩ = some (.int .i64 ((rd_T62 l0 x4_1).f2)) ∧ w'.cell? ⟨gb135, 3, none⟩ = some (.slice A134_3 ((rd_T62 l0 x4_1).f3).length c134_3)) (ds := []) #[false, false, false, false, false, false, false, false, false] (by kernel_rfl) rfl rfl ⟨(blk_cell BK135.out 0).trans rfl, (blk_cell BK135.out 1).trans rfl, (blk_cell BK135.out 2).trans rfl, (blk_cell BK135.out 3).trans rfl⟩ (fun hHeld => ?_); refine with_tabW spec_DeltaBytes.tab13 spec_DeltaBytes.bits13 (fun HT_ HW_ => ?_)
                    generalize w32.drew = w34 at HO142 BK135 HB hHeld ⊢
                    refine pure_ (i := 0) (N := some 42) (v := ?_) (a' := ?_) #[true, false, false, false, false, false, false, false, false] rfl rfl (any_of HT_.out (by kernel_rfl)) (fun _ _ _ h => h) (Or.inl ⟨by rfl, ?_⟩) ?_ ?_
                    rotate_left
                    · intro w'
                      go_simp
                      with_reducible rfl
                    rotate_left
                    · simp only [Act.put, List.setIfInBounds_toArray, List.set_cons_zero, List.set_cons_succ, i64_w, i32_w]
                      rfl
                    refine pure_ (i := 1) (N := some 43) (v := ?_) (a' := ?_) #[true, true, false, false, false, false, false, false, false] rfl rfl (any_of HT_.out (by kernel_rfl)) (fun _ _ _ h => h) (Or.inl ⟨by rfl, ?_⟩) ?_ ?_
                    rotate_left
                    · intro w'
                      go_simp
                      with_reducible rfl
                    rotate_left
                    · simp only [Act.put, List.setIfInBounds_toArray, List.set_cons_zero, List.set_cons_succ, i64_w, i32_w]
                      rfl
                    refine pure_ (i := 5) (N := some 47) (v := ?_) (a' := ?_) #[true, true, false, false, false, true, false, false, false] rfl rfl (any_of HT_.out (by kernel_rfl)) (fun _ _ _ h => h) (Or.inl ⟨by rfl, ?_⟩) ?_ ?_
                    rotate_left
                    · intro w'
                      go_simp
                      with_reducible rfl
                    rotate_left
                    · simp only [Act.put, List.setIfInBounds_toArray, List.set_cons_zero, List.set_cons_succ, i64_w, i32_w]
                      rfl
                    refine take_ (i := 2) (N := some 44) (v := ?_) (a' := ?_) #[true, true, true, false, false, true, false, false, false] rfl rfl (take_ofW HT_.out HW_.out (by kernel_rfl)) (fun _ _ _ h => h) (Or.inl ⟨by rfl, ?_⟩) hHeld ?_ ?_
                    rotate_left
                    · rintro w' ⟨s0, s1, s2, s3⟩
                      go_simp
                      with_reducible rfl
                    rotate_left
                    · simp only [Act.put, List.setIfInBounds_toArray, List.set_cons_zero, List.set_cons_succ, i64_w, i32_w]
                      rfl
                    refine pure_ (i := 3) (N := some 45) (v := ?_) (a' := ?_) #[true, true, true, true, false, true, false, false, false] rfl rfl (any_of HT_.out (by kernel_rfl)) (fun _ _ _ h => h) (Or.inl ⟨by rfl, ?_⟩) ?_ ?_
                    rotate_left
                    · intro w'
                      go_simp
                      with_reducible rfl
                    rotate_left
                    · simp only [Act.put, List.setIfInBounds_toArray, List.set_cons_zero, List.set_cons_succ, i64_w, i32_w]
                      rfl
                    refine take_ (i := 6) (N := some 48) (v := ?_) (a' := ?_) #[true, true, true, true, false, true, true, false, false] rfl rfl (take_ofW HT_.out HW_.out (by kernel_rfl)) (fun _ _ _ h => h) (Or.inl ⟨by rfl, ?_⟩) hHeld ?_ ?_
                    rotate_left
                    · rintro w' ⟨s0, s1, s2, s3⟩
                      go_simp
                      with_reducible rfl
                    rotate_left
                    · simp only [Act.put, List.setIfInBounds_toArray, List.set_cons_zero, List.set_cons_succ, i64_w, i32_w]
                      rfl
                    refine one_ (i := 4) (N := some 46) #[true, true, true, true, true, true, true, false, false] rfl rfl (one_of HT_.out (by kernel_rfl)) (by decide) (fun K hK => ?_)
                    refine goes_ Try.func53 (by kernel_rfl) rfl #[.slice Ao35 y140.length co35, .int .i64 (((rd_T62 l0 x4_1).f3).length : Int)] (by rfl) rfl rfl (by (try simp only [List.map_toArray, List.map_cons, List.map_nil]); first | done | rfl | (simp only [List.length_drop, List.length_take]; rfl)) ?_
                    with_reducible refine (spec_l10Num.calls k1 (fun k_ => some k_ = (.slice Ao35 y140.length co35 : Value).ownBlock) (.slice Ao35 y140.length co35) y140 (((rd_T62 l0 x4_1).f3).length : Int) t149 w _ ?side1 ?side2 A26.out).mono ?_
                    (case side1 => repeat (first | (with_reducible first | exact HB.out | apply below_alloc | apply pw_below_drewN | apply below_drew1 | refine below_set ?_ GE135.out) | exact HB.out))
                    (case side2 => exact Kd.R_tight rfl HO142.out)
                    rintro e w36 ⟨v150, rfl, ho0, hb, hkp⟩
                    refine ⟨_, rfl, ?_⟩
                    have n0_ := Aside0.mk (blk_kept (by (with_reducible repeat (first | refine blk_drewN ?_ _ | refine blk_drew ?_ | refine blk_alloc ?_ _)); exact BK135.out) hkp (fun hs_ => (fun e_ => (Kd.R_ne HO142.out BK135.out (by decide)) e_) hs_))
                    have n1_ := Aside0.mk (Kd.R_mono (ok' := fun k_ => True) ho0 (fun k_ hk_ => trivial))
                    have n2_ := Aside0.mk (hb)
                    clear BK135
                    clear HB
                    clear HO142
                    have BK135 := n0_
                    have HO151 := n1_
                    have HB := n2_
                    clear n0_ n1_ n2_
                    (try clear hb)
                    (try clear hkp)
                    (try clear ho0)
                    refine hK.out _ _ ⟨(blk_cell BK135.out 0).trans rfl, (blk_cell BK135.out 1).trans rfl, (blk_cell BK135.out 2).trans rfl, (blk_cell BK135.out 3).trans rfl⟩ (fun hHeld => ?_)
                    clear hK K
                    refine norm_ (a' := ?_) ?_ ?_
                    rotate_left
                    · show Act.put _ (some 46) _ = _
                      simp only [Act.put, List.setIfInBounds_toArray, List.set_cons_zero, List.set_cons_succ, i64_w, i32_w]
                      rfl
                    refine one_ (i := 7) (N := some 49) #[true, true, true, true, true, true, true, true, false] rfl rfl (one_of HT_.out (by kernel_rfl)) (by decide) (fun K hK => ?_)
                    refine Kd.R_append_rows_step (Kd.int .u8) (w0 := w) w.heap.size (by rfl) (.tmp 46) (.tmp 48) 22 5 (.int .u8 0) 1 rfl Try.underlying22 info5 rfl (by decide) (by omega) v150 t149 ((rd_T62 l0 x4_1).f3) _ _ _ (fun _ => True) (fun _ => False) rfl rfl ?aO ?aR (fun _ _ h => h) (fun _ h => h.elim) ?aF ?aB ?aS ?aL ?_
                    (case aR => repeat (first | exact (Kd.C_below HR134_3.out HB.out) | (with_reducible refine Kd.C_alloc ?_ _) | (with_reducible refine Kd.C_drewN ?_ _) | (with_reducible refine Kd.C_drew ?_)))
                    (case aB => exact (by repeat (first | (with_reducible first | exact HB.out | apply below_alloc | apply pw_below_drewN | apply below_drew1 | refine below_set ?_ GE135.out) | exact HB.out)))
                    (case aF => exact (fun _ _ => trivial))
                    (case aO => exact (by (with_reducible repeat (first | apply Kd.R_alloc | apply Kd.R_drewN | apply Kd.R_drew)); exact HO151.out))
                    (case aS => exact (below_size (by repeat (first | (with_reducible first | exact HB.out | apply below_alloc | apply pw_below_drewN | apply below_drew1 | refine below_set ?_ GE135.out) | exact HB.out))))
                    (case aL => have := LMc27.out; omega)
                    intro v153 w37 ho hb hg hat
                    rw [← Ny152.out] at ho
                    have n0_ := Aside0.mk (blk_grown (g := gb135) (o := .cells #[.int .i64 ((rd_T62 l0 x4_1).f0), .int .i64 ((rd_T62 l0 x4_1).f1), .int .i64 ((rd_T62 l0 x4_1).f2), .slice A134_3 ((rd_T62 l0 x4_1).f3).length c134_3] 62 (0, 0)) (by (with_reducible repeat (first | refine blk_drewN ?_ _ | refine blk_drew ?_ | refine blk_alloc ?_ _)); exact BK135.out) hg (Kd.R_ne HO151.out BK135.out (by decide)))
                    have n1_ := Aside0.mk (hb)
                    have n2_ := Aside0.mk (ho)
                    clear BK135
                    clear HB
                    clear HO151
                    have BK135 := n0_
                    have HB := n1_
                    have HO154 := n2_
                    clear n0_ n1_ n2_
                    clear ho hb hg hat
                    refine hK.out _ _ ⟨(blk_cell BK135.out 0).trans rfl, (blk_cell BK135.out 1).trans rfl, (blk_cell BK135.out 2).trans rfl, (blk_cell BK135.out 3).trans rfl⟩ (fun hHeld => ?_)
                    clear hK K
                    refine norm_ (a' := ?_) ?_ ?_
                    rotate_left
                    · show Act.put _ (some 49) _ = _
                      simp only [Act.put, List.setIfInBounds_toArray, List.set_cons_zero, List.set_cons_succ, i64_w, i32_w]
                      rfl
                    refine pure_ (i := 8) (N := some 3) (v := ?_) (a' := ?_) #[true, true, true, true, true, true, true, true, true] rfl rfl (any_of HT_.out (by kernel_rfl)) (fun _ _ _ h => h) (Or.inl ⟨by rfl, ?_⟩) ?_ ?_
                    rotate_left
                    · intro w'
                      go_simp
                      with_reducible rfl
                    rotate_left
                    · simp only [Act.put, List.setIfInBounds_toArray, List.set_cons_zero, List.set_cons_succ, i64_w, i32_w]
                      rfl
                    refine done_ (done_of HT_.out (by kernel_rfl)) ?_
                    try go_wp2
                    go_roundg k1
                    case measure => have := HK1.out; omega
                    case rel => exact ⟨(y152), (wrap64 (x4_1 + 1)), (by first | rfl | (simp; done) | (simp [*]; done)), H', ⟨by have := HK1.out; omega⟩, ⟨Kd.RM_of (by (with_reducible repeat (first | apply Kd.R_alloc | apply Kd.R_drewN | apply Kd.R_drew)); exact HO154.out)⟩, ⟨by repeat (first | (with_reducible first | exact HB.out | apply below_alloc | apply pw_below_drewN | apply below_drew1 | refine below_set ?_ GE135.out) | exact HB.out)⟩⟩
                  · rw [if_neg c27] at H
                    exact absurd H (by simp)
              · rw [if_neg c11] at H
                exact absurd H (by simp)
            · replace c10 := Bool.eq_false_iff.mpr c10
              subst c10
              have H1 : (some (([] : List Int))) = some r := by rw [if_neg (show ¬ (false = true) by decide)] at H; exact H
              clear H
              have H := H1
              clear H1
              obtain ⟨y137, hy137⟩ : ∃ y_ : List Int, y_ = (([] : List Int)) := ⟨_, rfl⟩
              replace H : (some y137) = some r := by first | (rw [hy137]; with_reducible exact H) | (have H2_ := (Option.bind_some _ _).symm.trans H; rw [hy137]; with_reducible exact H2_) | (have H2_ := (Option.bind_some _ _).symm.trans H; with_reducible exact H2_) | with_reducible exact H | (rw [hy137]; exact H) | exact H
              have Ny137 := Aside0.mk hy137
              clear hy137
              obtain rfl := Option.some.inj H
              have p134 : 0 ≤ (x4_1 : Int) := of_decide_eq_true (by first | (with_reducible assumption) | assumption)
              have q134 : x4_1 < (l0.length : Int) := of_decide_eq_true (by first | (with_reducible assumption) | assumption)
              obtain ⟨ad134, A134_3, c134_3, e134, hx134_0, hx134_1, hx134_2, hx134_3, hl134_3, hi134_3⟩ := at_T62 HR0.out x4_1 p134 q134
              cases e134
              try (replace hx134_0 := (HB.out.cell (World.block_lt_of_cell? w _ hx134_0)).trans hx134_0)
              try (replace hx134_1 := (HB.out.cell (World.block_lt_of_cell? w _ hx134_1)).trans hx134_1)
              try (replace hx134_2 := (HB.out.cell (World.block_lt_of_cell? w _ hx134_2)).trans hx134_2)
              try (replace hx134_3 := (HB.out.cell (World.block_lt_of_cell? w _ hx134_3)).trans hx134_3)
              have HR134_3 := Aside0.mk hi134_3
              have HC134_3 := Aside0.mk hl134_3
              clear hi134_3 hl134_3
              replace p134 := eq_true p134
              replace q134 := eq_true q134
              go_wp2_with (first | ((with_reducible refine gate_dst (N := 5) rfl ?_); refine box_event ?hg (N := 5) ?hd (cs := #[.int .i64 0, .int .i64 0, .int .i64 0, .slice none 0 0]) (t := 62) ?hr ?_; (case hd => rfl); (case hg => rfl); (case hr => first | (go_simp; done) | (go_simp; rfl)); intro gb135 hg w38 hbox hb; have n0_ := Aside0.mk (Kd.RM_below (by (with_reducible repeat (first | apply Kd.RM_alloc | apply Kd.RM_drewN | apply Kd.RM_drew)); exact HO_3.out) hb); have n1_ := Aside0.mk (below_step (by repeat (first | (with_reducible first | exact HB.out | apply below_alloc | apply pw_below_drewN | apply below_drew1) | exact HB.out)) hb); have n2_ := Aside0.mk (hbox); have n3_ := Aside0.mk ((by rw [hg]; exact (below_size (by repeat (first | (with_reducible first | exact HB.out | apply below_alloc | apply pw_below_drewN | apply below_drew1) | exact HB.out))) : w.heap.size ≤ gb135)); have n4_ := Aside0.mk ((by rw [hg]; exact (below_size (by repeat (first | (with_reducible first | exact HB.out | apply below_alloc | apply pw_below_drewN | apply below_drew1) | exact HB.out))) : w.heap.size ≤ gb135)); clear HO_3; clear HB; have HO_3 := n0_; have HB := n1_; have BK135 := n2_; have GW135 := n3_; have GE135 := n4_; clear n0_ n1_ n2_ n3_ n4_; clear hb hbox hg; have hcz39_0 : w38.cell? ⟨gb135, 0, none⟩ = some (.int .i64 0) := (blk_cell BK135.out 0).trans rfl; have hcz39_1 : w38.cell? ⟨gb135, 1, none⟩ = some (.int .i64 0) := (blk_cell BK135.out 1).trans rfl; have hcz39_2 : w38.cell? ⟨gb135, 2, none⟩ = some (.int .i64 0) := (blk_cell BK135.out 2).trans rfl; have hcz39_3 : w38.cell? ⟨gb135, 3, none⟩ = some (.slice none 0 0) := (blk_cell BK135.out 3).trans rfl; have hfz39_0 := blk_frozen BK135.out 0; have hfz39_1 := blk_frozen BK135.out 1; have hfz39_2 := blk_frozen BK135.out 2; have hfz39_3 := blk_frozen BK135.out 3) | ((with_reducible refine gate_callee (f := 50) rfl ?_); refine goesL_ (some 23) rfl rfl Try.func50 (by kernel_rfl) rfl #[.agg #[.int .i64 ((rd_T62 l0 x4_1).f0), .int .i64 ((rd_T62 l0 x4_1).f1), .int .i64 ((rd_T62 l0 x4_1).f2), .slice A134_3 ((rd_T62 l0 x4_1).f3).length c134_3]] rfl (by (try simp only [List.map_toArray, List.map_cons, List.map_nil]); first | done | rfl | (simp only [List.length_drop, List.length_take]; rfl)) ?_; (with_reducible refine (spec_l14StepOk.calls ((rd_T62 l0 x4_1).f0) ((rd_T62 l0 x4_1).f1) ((rd_T62 l0 x4_1).f2) _ _ ((rd_T62 l0 x4_1).f3) false _ ?side1 ?side2 A9.out).mono ?_); (case side1 => exact Kd.C_below HR134_3.out (by repeat (first | (with_reducible first | exact HB.out | apply below_alloc | apply pw_below_drewN | apply below_drew1 | refine below_set ?_ GE135.out) | exact HB.out))); (case side2 => exact HC134_3.out); rintro e w40 ⟨rfl, hb⟩; refine ⟨_, rfl, ?_⟩; have n0_ := Aside0.mk (Kd.RM_below (by (with_reducible repeat (first | apply Kd.RM_alloc | apply Kd.RM_drewN | apply Kd.RM_drew)); exact (Kd.RM_mono (Kd.RM_far (p := ⟨gb135, 3, none⟩) (Kd.RM_far (p := ⟨gb135, 2, none⟩) (Kd.RM_far (p := ⟨gb135, 1, none⟩) (Kd.RM_far (p := ⟨gb135, 0, none⟩) (Kd.RM_types HO_3.out BK135.out (by decide)) (fun _ hk => hk.2) (.int .i64 ((rd_T62 l0 x4_1).f0))) (fun _ hk => hk.2) (.int .i64 ((rd_T62 l0 x4_1).f1))) (fun _ hk => hk.2) (.int .i64 ((rd_T62 l0 x4_1).f2))) (fun _ hk => hk.2) (.slice A134_3 ((rd_T62 l0 x4_1).f3).length c134_3)) (fun _ h_ => h_.1))) hb); have n1_ := Aside0.mk (blk_below (g := gb135) (o := .cells #[.int .i64 ((rd_T62 l0 x4_1).f0), .int .i64 ((rd_T62 l0 x4_1).f1), .int .i64 ((rd_T62 l0 x4_1).f2), .slice A134_3 ((rd_T62 l0 x4_1).f3).length c134_3] 62 (0, 0)) (by (with_reducible repeat (first | refine blk_drewN ?_ _ | refine blk_drew ?_ | refine blk_alloc ?_ _)); refine blk_put (cs := #[.int .i64 ((rd_T62 l0 x4_1).f0), .int .i64 ((rd_T62 l0 x4_1).f1), .int .i64 ((rd_T62 l0 x4_1).f2), .slice none 0 0]) ?_ 3 _ rfl; (with_reducible repeat (first | refine blk_drewN ?_ _ | refine blk_drew ?_ | refine blk_alloc ?_ _)); refine blk_put (cs := #[.int .i64 ((rd_T62 l0 x4_1).f0), .int .i64 ((rd_T62 l0 x4_1).f1), .int .i64 0, .slice none 0 0]) ?_ 2 _ rfl; (with_reducible repeat (first | refine blk_drewN ?_ _ | refine blk_drew ?_ | refine blk_alloc ?_ _)); refine blk_put (cs := #[.int .i64 ((rd_T62 l0 x4_1).f0), .int .i64 0, .int .i64 0, .slice none 0 0]) ?_ 1 _ rfl; (with_reducible repeat (first | refine blk_drewN ?_ _ | refine blk_drew ?_ | refine blk_alloc ?_ _)); refine blk_put (cs := #[.int .i64 0, .int .i64 0, .int .i64 0, .slice none 0 0]) ?_ 0 _ rfl; (with_reducible repeat (first | refine blk_drewN ?_ _ | refine blk_drew ?_ | refine blk_alloc ?_ _)); exact BK135.out) hb); have n2_ := Aside0.mk (below_step (by repeat (first | (with_reducible first | exact HB.out | apply below_alloc | apply pw_below_drewN | apply below_drew1 | refine below_set ?_ GE135.out) | exact HB.out)) hb); clear HO_3; clear BK135; clear HB; have HO_3 := n0_; have BK135 := n1_; have HB := n2_; clear n0_ n1_ n2_; (try clear hb); (try clear hb2); (try clear hk); (try clear hi)) | ((with_reducible refine gate_dst (N := 25) rfl ?_); refine Kd.R_lit (Kd.int .u8) _ 5 ?hg (N := 25) ?hd (xs := ([] : List Int)) (inner := []) (ok := fun _ => True) (okp := fun _ => True) ?hr ?hp (fun _ hk => hk) trivial (Below.refl _ _) (Nat.le_refl _) (by simp) ?_; (case hd => rfl); (case hg => rfl); (case hr => first | (go_simp; done) | (go_simp; rfl)); (case hp => exact (Reps.none _ _)); intro v138 w41 ho42 hb hg_ hnew_; clear hg_ hnew_; (first | rw [← Ny137.out] at ho42 | (simp only [Int.reduceToNat] at ho42; rw [← Ny137.out] at ho42)); have n0_ := Aside0.mk (Kd.RM_elder' (by (with_reducible repeat (first | apply Kd.RM_alloc | apply Kd.RM_drewN | apply Kd.RM_drew)); exact HO_3.out) (Kd.R_base ho42) hb); have n1_ := Aside0.mk (Kd.R_lower (Kd.R_new' ho42 (Kd.RM_lt (by (with_reducible repeat (first | apply Kd.RM_alloc | apply Kd.RM_drewN | apply Kd.RM_drew)); exact HO_3.out))) (below_size (by repeat (first | (with_reducible first | exact HB.out | apply below_alloc | apply pw_below_drewN | apply below_drew1 | refine below_set ?_ GE135.out) | exact HB.out)))); have n2_ := Aside0.mk (blk_below (g := gb135) (o := .cells #[.int .i64 ((rd_T62 l0 x4_1).f0), .int .i64 ((rd_T62 l0 x4_1).f1), .int .i64 ((rd_T62 l0 x4_1).f2), .slice A134_3 ((rd_T62 l0 x4_1).f3).length c134_3] 62 (0, 0)) (by (with_reducible repeat (first | refine blk_drewN ?_ _ | refine blk_drew ?_ | refine blk_alloc ?_ _)); exact BK135.out) hb); have n3_ := Aside0.mk (below_step (by repeat (first | (with_reducible first | exact HB.out | apply below_alloc | apply pw_below_drewN | apply below_drew1 | refine below_set ?_ GE135.out) | exact HB.out)) hb); clear HO_3; clear BK135; clear HB; have HO_3 := n0_; have HO139 := n1_; have BK135 := n2_; have HB := n3_; clear n0_ n1_ n2_ n3_; clear hb ho42))
              go_ret
              exact ⟨_, by first | rfl | (simp [errW_none, errW_some] <;> rfl) | (simp [*, errW_none, errW_some] <;> rfl), Kd.RM_of (by (with_reducible repeat (first | apply Kd.R_alloc | apply Kd.R_drewN | apply Kd.R_drew)); exact Kd.R_mono HO139.out (fun _ hk => trivial)), by repeat (first | (with_reducible first | exact HB.out | apply below_alloc | apply pw_below_drewN | apply below_drew1 | refine below_set ?_ GE135.out) | exact HB.out)⟩
          · rw [if_neg c8] at H
            exact absurd H (by simp)
        · rw [if_neg c7] at H
          have c7b0 : decide (x4_1 < (l0.length : Int)) = false := decide_eq_false c7
          clear c7
          obtain rfl := Option.some.inj H
          go_wp2
          go_ret
          exact ⟨_, by first | rfl | (simp [errW_none, errW_some] <;> rfl) | (simp [*, errW_none, errW_some] <;> rfl), by (with_reducible repeat (first | apply Kd.RM_alloc | apply Kd.RM_drewN | apply Kd.RM_drew)); exact HO_3.out, by repeat (first | (with_reducible first | exact HB.out | apply below_alloc | apply pw_below_drewN | apply below_drew1) | exact HB.out)⟩
theorem spec_DeltaBytes.calls (k : Nat) (A0 : Option Addr) (c0 : Nat) (l0 : List (S62)) (r : List Int) (w : World) (hr0 : Kd.C k62 w A0 l0.length l0) (hc0 : l0.length ≤ c0) (h : spec_DeltaBytes.f k l0 = some r) :
    Calls Try.prog 29 #[.slice A0 l0.length c0] w fun e w' => ∃ v0_ : Value, e = .returned (v0_) ∧ Kd.V (Kd.int .u8) 5 w' w.heap.size (fun k_ => (w.heap.size ≤ k_)) v0_ r ∧ Below w.heap.size w w' := (spec_DeltaBytes.callsM k A0 c0 l0 r w hr0 hc0 h).mono (fun e w' ⟨v0_, h1, h2, h3⟩ => ⟨v0_, h1, Kd.RM_V h2, h3⟩)


/-- A state of type 72 at block g of W; what its slices lead to came in by w0. -/
def IsS72 (w0 W : World) (g : Nat) (f0 : List Int) (f1 : Int) (f2 : Bool) : Prop := ∃ A0 c0, W.heap[g]? = some (.cells #[.slice A0 f0.length c0, .int .i64 f1, .bool f2] 72 (0, 0)) ∧ w0.heap.size ≤ g ∧ Kd.C (Kd.int .u8) w0 A0 f0.length f0 ∧ f0.length ≤ c0
theorem IsS72.grown {w0 W : World} {g : Nat} {f0 : List Int} {f1 : Int} {f2 : Bool} {W1 : World} {row : Option Nat} (h : IsS72 w0 W g f0 f1 f2) (hw : W.grownBy W1 row) (hne : some g ≠ row) : IsS72 w0 W1 g f0 f1 f2 := by
  obtain ⟨A0, c0, hb, hg, hr0⟩ := h
  exact ⟨A0, c0, blk_grown hb hw hne, hg, hr0⟩
theorem IsS72.own_neN {w0 W : World} {g : Nat} {f0 : List Int} {f1 : Int} {f2 : Bool} {α : Type} {d : Kd α} {e : Nat} {base : Nat} {ok : Nat → Prop} {v : Value} {xs : List α} (h : IsS72 w0 W g f0 f1 f2) (ho : Kd.N d e W base ok v xs) (ht : e ≠ 72) : some g ≠ v.ownBlock := by
  obtain ⟨A0, c0, hb, hg, hr0⟩ := h
  exact Kd.N_ne ho hb ht
theorem IsS72.fresh {w0 W : World} {g : Nat} {f0 : List Int} {f1 : Int} {f2 : Bool} (h : IsS72 w0 W g f0 f1 f2) : ∀ k, W.heap.size ≤ k → k ≠ g := by
  obtain ⟨A0, c0, hb, hg, hr0⟩ := h
  exact Kd.freshB hb
theorem IsS72.kept {w0 W : World} {g : Nat} {f0 : List Int} {f1 : Int} {f2 : Bool} {W1 : World} {S : Nat → Prop} (h : IsS72 w0 W g f0 f1 f2) (hk : Kept W W1 S) (hne : ¬ S g) : IsS72 w0 W1 g f0 f1 f2 := by
  obtain ⟨A0, c0, hb, hg, hr0⟩ := h
  exact ⟨A0, c0, blk_kept hb hk hne, hg, hr0⟩
theorem IsS72.below {w0 W : World} {g : Nat} {f0 : List Int} {f1 : Int} {f2 : Bool} {W1 : World} (h : IsS72 w0 W g f0 f1 f2) (hw : Below W.heap.size W W1) : IsS72 w0 W1 g f0 f1 f2 := h.grown (grown_of_below hw none) (by simp)
theorem IsS72.alloc {w0 W : World} {g : Nat} {f0 : List Int} {f1 : Int} {f2 : Bool} (h : IsS72 w0 W g f0 f1 f2) (o : Obj) : IsS72 w0 (W.alloc o) g f0 f1 f2 := h.below (below_alloc (Below.refl _ _) o)
theorem IsS72.drewN {w0 W : World} {g : Nat} {f0 : List Int} {f1 : Int} {f2 : Bool} (h : IsS72 w0 W g f0 f1 f2) (m : Nat) : IsS72 w0 (W.drewN m) g f0 f1 f2 := h
theorem IsS72.drew {w0 W : World} {g : Nat} {f0 : List Int} {f1 : Int} {f2 : Bool} (h : IsS72 w0 W g f0 f1 f2) : IsS72 w0 W.drew g f0 f1 f2 := h
theorem IsS72.at_ {w0 W : World} {g : Nat} {f0 : List Int} {f1 : Int} {f2 : Bool} {w' : World} {m : Nat} (hq : W.drewN m = w') (h : IsS72 w0 W g f0 f1 f2) : IsS72 w0 w' g f0 f1 f2 := by subst hq; exact IsS72.drewN h m
theorem IsS72.apart {w0 W : World} {g : Nat} {f0 : List Int} {f1 : Int} {f2 : Bool} {α : Type} {d : Kd α} {e : Nat} {base : Nat} {ok : Nat → Prop} {v : Value} {xs : List α} (h : IsS72 w0 W g f0 f1 f2) (ho : d.R e W base ok v xs) (ht : ∀ q, q ∈ e :: d.E → q ≠ 72) : d.R e W base (fun k => ok k ∧ k ≠ g) v xs := by
  obtain ⟨A0, c0, hb, hg, hr0⟩ := h
  exact Kd.R_types ho hb ht
theorem IsS72.own_ne {w0 W : World} {g : Nat} {f0 : List Int} {f1 : Int} {f2 : Bool} {α : Type} {d : Kd α} {e : Nat} {base : Nat} {ok : Nat → Prop} {v : Value} {xs : List α} (h : IsS72 w0 W g f0 f1 f2) (ho : d.R e W base ok v xs) (ht : e ≠ 72) : some g ≠ v.ownBlock := by
  obtain ⟨A0, c0, hb, hg, hr0⟩ := h
  exact Kd.R_ne ho hb ht
theorem IsS72.apartQ {w0 W : World} {g : Nat} {f0 : List Int} {f1 : Int} {f2 : Bool} {α : Type} {d : Kd α} {e : Nat} {base : Nat} {ok : Nat → Prop} {v : Value} {xs : List α} (h : IsS72 w0 W g f0 f1 f2) (ho : d.Q e W base ok v xs) (ht : ∀ q, q ∈ e :: d.E → q ≠ 72) : d.Q e W base (fun k => ok k ∧ k ≠ g) v xs := by
  obtain ⟨A0, c0, hb, hg, hr0⟩ := h
  exact Kd.Q_types ho hb ht
theorem IsS72.own_neQ {w0 W : World} {g : Nat} {f0 : List Int} {f1 : Int} {f2 : Bool} {α : Type} {d : Kd α} {e : Nat} {base : Nat} {ok : Nat → Prop} {v : Value} {xs : List α} (h : IsS72 w0 W g f0 f1 f2) (ho : d.Q e W base ok v xs) (ht : e ≠ 72) : some g ≠ v.ownBlock := by
  obtain ⟨A0, c0, hb, hg, hr0⟩ := h
  exact Kd.Q_ne ho hb ht
theorem IsS72.apartS {w0 W : World} {g : Nat} {f0 : List Int} {f1 : Int} {f2 : Bool} {α : Type} {d : Kd α} {e : Nat} {base : Nat} {ok : Nat → Prop} {v : Value} {xs : List α} (h : IsS72 w0 W g f0 f1 f2) (ho : d.S e W base ok v xs) (ht : ∀ q, q ∈ e :: d.E → q ≠ 72) : d.S e W base (fun k => ok k ∧ k ≠ g) v xs := by
  obtain ⟨A0, c0, hb, hg, hr0⟩ := h
  exact Kd.S_types ho hb ht
theorem IsS72.own_neS {w0 W : World} {g : Nat} {f0 : List Int} {f1 : Int} {f2 : Bool} {α : Type} {d : Kd α} {e : Nat} {base : Nat} {ok : Nat → Prop} {v : Value} {xs : List α} (h : IsS72 w0 W g f0 f1 f2) (ho : d.S e W base ok v xs) (ht : e ≠ 72) : some g ≠ v.ownBlock := by
  obtain ⟨A0, c0, hb, hg, hr0⟩ := h
  exact Kd.S_ne ho hb ht
theorem IsS72.lt {w0 W : World} {g : Nat} {f0 : List Int} {f1 : Int} {f2 : Bool} (h : IsS72 w0 W g f0 f1 f2) : g < W.heap.size := by
  obtain ⟨A0, c0, hb, hg, hr0⟩ := h
  exact blk_lt hb
theorem IsS72.ge {w0 W : World} {g : Nat} {f0 : List Int} {f1 : Int} {f2 : Bool} (h : IsS72 w0 W g f0 f1 f2) : w0.heap.size ≤ g := by
  obtain ⟨A0, c0, hb, hg, hr0⟩ := h
  exact hg
theorem IsS72.ne_blk {w0 W : World} {g : Nat} {f0 : List Int} {f1 : Int} {f2 : Bool} {a : Nat} {cs : Array Value} {t : TypeId} {fr : Nat × Nat} (h : IsS72 w0 W g f0 f1 f2) (hb2 : W.heap[a]? = some (.cells cs t fr)) (ht : t ≠ 72) : g ≠ a := by
  obtain ⟨A0, c0, hb, hg, hr0⟩ := h
  rintro rfl
  rw [hb] at hb2
  injection hb2 with hb2
  injection hb2 with _ ht2
  exact ht ht2.symm
theorem IsS72.far {w0 W : World} {g : Nat} {f0 : List Int} {f1 : Int} {f2 : Bool} {p : Addr} (h : IsS72 w0 W g f0 f1 f2) (hne : g ≠ p.block) (u : Value) : IsS72 w0 (W.setCell p u) g f0 f1 f2 := by
  obtain ⟨A0, c0, hb, hg, hr0⟩ := h
  exact ⟨A0, c0, blk_far hb hne u, hg, hr0⟩
theorem cellS72_0 {W : World} {g : Nat} {A0 : Option Addr} {c0 : Nat} {f0 : List Int} {f1 : Int} {f2 : Bool} (h : W.heap[g]? = some (.cells #[.slice A0 f0.length c0, .int .i64 f1, .bool f2] 72 (0, 0))) : W.cell? ⟨g, 0, none⟩ = some (.slice A0 f0.length c0) := (blk_cell h 0).trans rfl
theorem cellS72_1 {W : World} {g : Nat} {A0 : Option Addr} {c0 : Nat} {f0 : List Int} {f1 : Int} {f2 : Bool} (h : W.heap[g]? = some (.cells #[.slice A0 f0.length c0, .int .i64 f1, .bool f2] 72 (0, 0))) : W.cell? ⟨g, 1, none⟩ = some (.int .i64 f1) := (blk_cell h 1).trans rfl
theorem IsS72.set_1 {w0 W : World} {g : Nat} {f0 : List Int} {f1 : Int} {f2 : Bool} (h : IsS72 w0 W g f0 f1 f2) (x : Int) : IsS72 w0 (W.setCell ⟨g, 1, none⟩ (.int .i64 x)) g f0 x f2 := by
  obtain ⟨A0, c0, hb, hg, hr0⟩ := h
  exact ⟨A0, c0, by simpa using blk_set hb 1 (.int .i64 x), hg, hr0⟩
theorem cellS72_2 {W : World} {g : Nat} {A0 : Option Addr} {c0 : Nat} {f0 : List Int} {f1 : Int} {f2 : Bool} (h : W.heap[g]? = some (.cells #[.slice A0 f0.length c0, .int .i64 f1, .bool f2] 72 (0, 0))) : W.cell? ⟨g, 2, none⟩ = some (.bool f2) := (blk_cell h 2).trans rfl
theorem IsS72.set_2 {w0 W : World} {g : Nat} {f0 : List Int} {f1 : Int} {f2 : Bool} (h : IsS72 w0 W g f0 f1 f2) (x : Bool) : IsS72 w0 (W.setCell ⟨g, 2, none⟩ (.bool x)) g f0 f1 x := by
  obtain ⟨A0, c0, hb, hg, hr0⟩ := h
  exact ⟨A0, c0, by simpa using blk_set hb 2 (.bool x), hg, hr0⟩
theorem IsS72.new (w0 W : World) (A0 : Option Addr) (c0 : Nat) (f0 : List Int) (f1 : Int) (f2 : Bool) (hB : Below w0.heap.size w0 W) (hr0 : Kd.C (Kd.int .u8) w0 A0 f0.length f0 ∧ f0.length ≤ c0) : IsS72 w0 (W.alloc (.cells #[.slice A0 f0.length c0, .int .i64 f1, .bool f2] 72)) W.heap.size f0 f1 f2 := ⟨A0, c0, by simpa using heap_alloc_new W _, hB.size, hr0⟩

/-! ### spec_l10Read: function 55 -/
def spec_l10Read.l0 : Nat → Int → Int → List Int → Int → Bool → Option (Int × Int × Bool)
  | 0, _, _, _, _, _ => none
  | k + 1, x3, x4, x1000, x1001, x1002 => if x4 < 28 then (if x1001 ≥ (x1000.length : Int) then (some (0, x1001, true)) else (if 0 ≤ x1001 then (if x1001 < (x1000.length : Int) then (if 0 ≤ x4 then (if (rd x1000 x1001) < 128 then (some (wrap64 (x3 + (shl .i64 (wrap64 (Go.bits .and .u8 (rd x1000 x1001) 127)) x4)), wrap64 (x1001 + 1), x1002)) else (spec_l10Read.l0 k (wrap64 (x3 + (shl .i64 (wrap64 (Go.bits .and .u8 (rd x1000 x1001) 127)) x4))) (IntKind.u64.wrap (x4 + 7)) x1000 (wrap64 (x1001 + 1)) x1002)) else (none)) else (none)) else (none))) else (some (0, x1001, true))
def spec_l10Read.f (k : Nat) (s0_0 : List Int) (s0_1 : Int) (s0_2 : Bool) : Option (Int × Int × Bool) := spec_l10Read.l0 k 0 0 s0_0 s0_1 s0_2
theorem spec_l10Read.mono_l : ∀ k, (∀ y0 y1 y2 y3 y4, LeO (spec_l10Read.l0 k y0 y1 y2 y3 y4) (spec_l10Read.l0 (k + 1) y0 y1 y2 y3 y4))
  | 0 => fun _ _ _ _ _ r h => by simp [spec_l10Read.l0] at h
  | k + 1 => by
    have ih0 := spec_l10Read.mono_l k
    · intro y0 y1 y2 y3 y4
      unfold spec_l10Read.l0
      repeat' first
      | (with_reducible exact ih0 _ _ _ _ _)
      | (with_reducible exact LeO.refl _)
      | (with_reducible exact LeO.none _)
      | (with_reducible refine LeO.ite ?_ ?_)
      | (with_reducible refine LeO.bind ?_ (fun _ => ?_))
      | exact ih0 _ _ _ _ _
      | exact LeO.none _
      | refine LeO.ite ?_ ?_
      | refine LeO.bind ?_ (fun _ => ?_)
theorem spec_l10Read.mono : ∀ a0 a1 a2 k, LeO (spec_l10Read.f k a0 a1 a2) (spec_l10Read.f (k + 1) a0 a1 a2) := by
  intro a0 a1 a2 k
  have ih0 := spec_l10Read.mono_l k
  unfold spec_l10Read.f
  repeat' first
      | (with_reducible exact ih0 _ _ _ _ _)
      | (with_reducible exact LeO.refl _)
      | (with_reducible exact LeO.none _)
      | (with_reducible refine LeO.ite ?_ ?_)
      | (with_reducible refine LeO.bind ?_ (fun _ => ?_))
      | exact ih0 _ _ _ _ _
      | exact LeO.none _
      | refine LeO.ite ?_ ?_
      | refine LeO.bind ?_ (fun _ => ?_)
set_option maxHeartbeats 8000000 in
set_option maxRecDepth 100000 in
theorem spec_l10Read.calls (k : Nat) (g : Nat) (s0_0 : List Int) (s0_1 : Int) (s0_2 : Bool) (r1 : Int) (r2 : Int) (r3 : Bool) (w0 w : World) (hI : IsS72 w0 w g s0_0 s0_1 s0_2) (hB : Below w0.heap.size w0 w) (h : spec_l10Read.f k s0_0 s0_1 s0_2 = some (r1, r2, r3)) :
    Calls Try.prog 55 #[.pointer (some ⟨g, 0, none⟩)] w fun e w' => e = .returned (.int .i64 r1) ∧ IsS72 w0 w' g s0_0 r2 r3 ∧ Below w0.heap.size w0 w' ∧ KeepBut w w' g none := by
  have HI0 := Aside0.mk hI
  have HK := Aside0.mk (KeepBut.refl w g none)
  have HL := Aside0.mk hB.size
  clear hI
  have HW0 := Aside0.mk hB.size
  have HB := Aside0.mk hB
  clear hB
  have H : (spec_l10Read.l0 k 0 0 s0_0 s0_1 s0_2) = some (r1, r2, r3) := h
  clear h
  have H' := Aside0.mk H
  clear H
  go_enter Try.func55, Try.ntmps55
  go_wp2
  repeat (go_quiet (fail); try go_wp2)
  go_loopg [3, 4] k (fun kq v3 v4 w' => ∃ (x3_1 : Int) (x4_1 : Int) (x1001_1 : Int) (x1002_1 : Bool), v3 = .int .i64 x3_1 ∧ v4 = .int .u64 x4_1 ∧ Aside0 (spec_l10Read.l0 kq x3_1 x4_1 s0_0 x1001_1 x1002_1 = some (r1, r2, r3)) ∧ Aside0 (kq ≤ k) ∧ Aside0 (IsS72 w0 w' g s0_0 x1001_1 x1002_1) ∧ Aside0 (KeepBut w w' g none) ∧ Aside0 (Below w0.heap.size w0 w'))
  case atStart => exact ⟨(0), (0), (s0_1), (s0_2), (by first | rfl | (simp; done) | (simp [*]; done)), (by first | rfl | (simp; done) | (simp [*]; done)), H', ⟨Nat.le_refl _⟩, ⟨by repeat (first | (with_reducible first | exact HI0.out | apply IsS72.alloc | apply IsS72.drewN | apply IsS72.drew | apply IsS72.set_1 | apply IsS72.set_2) | exact HI0.out)⟩, ⟨by repeat (first | (with_reducible first | exact HK.out | apply KeepBut.set_ | apply keep_drewN | apply keep_drew | apply keep_alloc) | exact HK.out)⟩, ⟨by repeat (first | (with_reducible first | exact HB.out | apply below_alloc | apply pw_below_drewN | apply below_drew1 | refine below_set ?_ (IsS72.ge HI0.out)) | exact HB.out)⟩⟩
  case round =>
    clear H'
    obtain ⟨x3_1, x4_1, x1001_1, x1002_1, rfl, rfl, HA, HK1, HI0, HK, HB⟩ := hrel
    cases gk with
    | zero => exact absurd HA.out (by simp [spec_l10Read.l0])
    | succ k1 =>
      have H := HA.out
      clear HA
      simp only [spec_l10Read.l0] at H
      by_cases c2 : x4_1 < 28
      · rw [if_pos c2] at H
        have c2b0 : decide (x4_1 < 28) = true := decide_eq_true c2
        clear c2
        by_cases c3 : x1001_1 ≥ (s0_0.length : Int)
        · rw [if_pos c3] at H
          have c3b0 : decide ((s0_0.length : Int) ≤ x1001_1) = true := decide_eq_true c3
          clear c3
          simp only [Option.some.injEq, Prod.mk.injEq] at H
          obtain ⟨rfl, rfl, rfl⟩ := H
          obtain ⟨ASz4_0, cSz4_0, HGz4, hgz4, HSz4_0, HCz4_0⟩ := HI0.out
          have hcz4_0 := cellS72_0 HGz4
          have hcz4_1 := cellS72_1 HGz4
          have hcz4_2 := cellS72_2 HGz4
          have hfz4_1 := blk_frozen HGz4 1
          have hfz4_2 := blk_frozen HGz4 2
          clear HGz4 hgz4
          go_wp2
          repeat (go_quiet (fail); try go_wp2)
          go_ret
          exact ⟨by first | rfl | (simp [errW_none, errW_some] <;> rfl) | (simp [*, errW_none, errW_some] <;> rfl), by repeat (first | (with_reducible first | exact HI0.out | apply IsS72.alloc | apply IsS72.drewN | apply IsS72.drew | apply IsS72.set_1 | apply IsS72.set_2) | exact HI0.out), by repeat (first | (with_reducible first | exact HB.out | apply below_alloc | apply pw_below_drewN | apply below_drew1 | refine below_set ?_ (IsS72.ge HI0.out)) | exact HB.out), by repeat (first | (with_reducible first | exact HK.out | apply KeepBut.set_ | apply keep_drewN | apply keep_drew | apply keep_alloc) | exact HK.out)⟩
        · rw [if_neg c3] at H
          have c3b0 : decide ((s0_0.length : Int) ≤ x1001_1) = false := decide_eq_false c3
          clear c3
          by_cases c5 : 0 ≤ x1001_1
          · rw [if_pos c5] at H
            have c5b0 : decide (0 ≤ x1001_1) = true := decide_eq_true c5
            clear c5
            by_cases c6 : x1001_1 < (s0_0.length : Int)
            · rw [if_pos c6] at H
              have c6b0 : decide (x1001_1 < (s0_0.length : Int)) = true := decide_eq_true c6
              clear c6
              by_cases c7 : 0 ≤ x4_1
              · rw [if_pos c7] at H
                have c7b0 := eq_true c7
                have c7b1 : decide (0 ≤ x4_1) = true := decide_eq_true c7
                clear c7
                obtain ⟨ji8, hji8⟩ : ∃ j_ : Int, (shl .i64 (wrap64 (Go.bits .and .u8 (rd s0_0 x1001_1) 127)) x4_1) = j_ := ⟨_, rfl⟩
                replace H : (if (rd s0_0 x1001_1) < 128 then (some (wrap64 (x3_1 + (ji8)), wrap64 (x1001_1 + 1), x1002_1)) else (spec_l10Read.l0 k1 (wrap64 (x3_1 + (ji8))) (IntKind.u64.wrap (x4_1 + 7)) s0_0 (wrap64 (x1001_1 + 1)) x1002_1)) = some (r1, r2, r3) := by first | (rw [hji8] at H; exact H) | (simp only [hji8] at H ⊢; exact H)
                have hji8_ : (IntKind.i64.wrap ((wrap64 (Go.bits .and .u8 (rd s0_0 x1001_1) 127)) * 2 ^ min x4_1.toNat 64)) = ji8 := hji8
                have hji8z : x4_1 ≤ 64 → (IntKind.i64.wrap ((wrap64 (Go.bits .and .u8 (rd s0_0 x1001_1) 127)) * 2 ^ x4_1.toNat)) = ji8 := shl_small hji8
                have hji8y : (wrap64 ((wrap64 (Go.bits .and .u8 (rd s0_0 x1001_1) 127)) * 2 ^ min x4_1.toNat 64)) = ji8 := (i64_w _).symm.trans hji8_
                have hji8x : x4_1 ≤ 64 → (wrap64 ((wrap64 (Go.bits .and .u8 (rd s0_0 x1001_1) 127)) * 2 ^ x4_1.toNat)) = ji8 := fun h_ => (i64_w _).symm.trans (hji8z h_)
                by_cases c9 : (rd s0_0 x1001_1) < 128
                · rw [if_pos c9] at H
                  have c9b0 : decide ((rd s0_0 x1001_1) < 128) = true := decide_eq_true c9
                  clear c9
                  simp only [Option.some.injEq, Prod.mk.injEq] at H
                  obtain ⟨rfl, rfl, rfl⟩ := H
                  obtain ⟨ASz10_0, cSz10_0, HGz10, hgz10, HSz10_0, HCz10_0⟩ := HI0.out
                  have hcz10_0 := cellS72_0 HGz10
                  have hcz10_1 := cellS72_1 HGz10
                  have hcz10_2 := cellS72_2 HGz10
                  have hfz10_1 := blk_frozen HGz10 1
                  have hfz10_2 := blk_frozen HGz10 2
                  clear HGz10 hgz10
                  have p155 : 0 ≤ (x1001_1 : Int) := of_decide_eq_true (by first | (with_reducible assumption) | assumption)
                  have q155 : x1001_1 < (s0_0.length : Int) := of_decide_eq_true (by first | (with_reducible assumption) | assumption)
                  obtain ⟨ad155, e155, hx155_0⟩ := Kd.at_int HSz10_0 x1001_1 p155 q155
                  cases e155
                  replace hx155_0 := pw_cell_below HB.out hx155_0
                  replace p155 := eq_true p155
                  replace q155 := eq_true q155
                  go_wp2
                  repeat (go_quiet (fail); try go_wp2)
                  go_ret
                  exact ⟨by first | rfl | (simp [errW_none, errW_some] <;> rfl) | (simp only [← hji8]; first | rfl | (simp [errW_none, errW_some] <;> rfl)) | (simp [*, errW_none, errW_some] <;> rfl), by repeat (first | (with_reducible first | exact HI0.out | apply IsS72.alloc | apply IsS72.drewN | apply IsS72.drew | apply IsS72.set_1 | apply IsS72.set_2) | exact HI0.out), by repeat (first | (with_reducible first | exact HB.out | apply below_alloc | apply pw_below_drewN | apply below_drew1 | refine below_set ?_ (IsS72.ge HI0.out)) | exact HB.out), by repeat (first | (with_reducible first | exact HK.out | apply KeepBut.set_ | apply keep_drewN | apply keep_drew | apply keep_alloc) | exact HK.out)⟩
                · rw [if_neg c9] at H
                  have c9b0 : decide ((rd s0_0 x1001_1) < 128) = false := decide_eq_false c9
                  clear c9
                  have H' := Aside0.mk H
                  clear H
                  obtain ⟨ASz11_0, cSz11_0, HGz11, hgz11, HSz11_0, HCz11_0⟩ := HI0.out
                  have hcz11_0 := cellS72_0 HGz11
                  have hcz11_1 := cellS72_1 HGz11
                  have hcz11_2 := cellS72_2 HGz11
                  have hfz11_1 := blk_frozen HGz11 1
                  have hfz11_2 := blk_frozen HGz11 2
                  clear HGz11 hgz11
                  have p155 : 0 ≤ (x1001_1 : Int) := of_decide_eq_true (by first | (with_reducible assumption) | assumption)
                  have q155 : x1001_1 < (s0_0.length : Int) := of_decide_eq_true (by first | (with_reducible assumption) | assumption)
                  obtain ⟨ad155, e155, hx155_0⟩ := Kd.at_int HSz11_0 x1001_1 p155 q155
                  cases e155
                  replace hx155_0 := pw_cell_below HB.out hx155_0
                  replace p155 := eq_true p155
                  replace q155 := eq_true q155
                  go_wp2
                  repeat (go_quiet (fail); try go_wp2)
                  go_roundg k1
                  case measure => have := HK1.out; omega
                  case rel => exact ⟨(wrap64 (x3_1 + (ji8))), (IntKind.u64.wrap (x4_1 + 7)), (wrap64 (x1001_1 + 1)), (x1002_1), (by first | rfl | (simp; done) | (simp only [← hji8] <;> (first | rfl | simp)) | (simp [*]; done)), (by first | rfl | (simp; done) | (simp [*]; done)), H', ⟨by have := HK1.out; omega⟩, ⟨by repeat (first | (with_reducible first | exact HI0.out | apply IsS72.alloc | apply IsS72.drewN | apply IsS72.drew | apply IsS72.set_1 | apply IsS72.set_2) | exact HI0.out)⟩, ⟨by repeat (first | (with_reducible first | exact HK.out | apply KeepBut.set_ | apply keep_drewN | apply keep_drew | apply keep_alloc) | exact HK.out)⟩, ⟨by repeat (first | (with_reducible first | exact HB.out | apply below_alloc | apply pw_below_drewN | apply below_drew1 | refine below_set ?_ (IsS72.ge HI0.out)) | exact HB.out)⟩⟩
              · rw [if_neg c7] at H
                exact absurd H (by simp)
            · rw [if_neg c6] at H
              exact absurd H (by simp)
          · rw [if_neg c5] at H
            exact absurd H (by simp)
      · rw [if_neg c2] at H
        have c2b0 : decide (x4_1 < 28) = false := decide_eq_false c2
        clear c2
        simp only [Option.some.injEq, Prod.mk.injEq] at H
        obtain ⟨rfl, rfl, rfl⟩ := H
        obtain ⟨ASz12_0, cSz12_0, HGz12, hgz12, HSz12_0, HCz12_0⟩ := HI0.out
        have hcz12_0 := cellS72_0 HGz12
        have hcz12_1 := cellS72_1 HGz12
        have hcz12_2 := cellS72_2 HGz12
        have hfz12_1 := blk_frozen HGz12 1
        have hfz12_2 := blk_frozen HGz12 2
        clear HGz12 hgz12
        go_wp2
        repeat (go_quiet (fail); try go_wp2)
        go_ret
        exact ⟨by first | rfl | (simp [errW_none, errW_some] <;> rfl) | (simp [*, errW_none, errW_some] <;> rfl), by repeat (first | (with_reducible first | exact HI0.out | apply IsS72.alloc | apply IsS72.drewN | apply IsS72.drew | apply IsS72.set_1 | apply IsS72.set_2) | exact HI0.out), by repeat (first | (with_reducible first | exact HB.out | apply below_alloc | apply pw_below_drewN | apply below_drew1 | refine below_set ?_ (IsS72.ge HI0.out)) | exact HB.out), by repeat (first | (with_reducible first | exact HK.out | apply KeepBut.set_ | apply keep_drewN | apply keep_drew | apply keep_alloc) | exact HK.out)⟩

/-! ### spec_l10ReadText: function 56 -/
def spec_l10ReadText.f (k : Nat) (s0_0 : List Int) (s0_1 : Int) (s0_2 : Bool) : Option (ByteArray × Int × Bool) := (spec_l10Read.f k s0_0 s0_1 s0_2).bind fun bt157 => (if bt157.2.2 = true then (some ((⟨#[]⟩ : ByteArray), bt157.2.1, true)) else (if bt157.1 > (wrap64 ((s0_0.length : Int) - bt157.2.1)) then (some ((⟨#[]⟩ : ByteArray), bt157.2.1, true)) else (if 0 ≤ (wrap64 ((wrap64 (bt157.2.1 + bt157.1)) - bt157.1)) then (if (wrap64 ((wrap64 (bt157.2.1 + bt157.1)) - bt157.1)) ≤ (wrap64 (bt157.2.1 + bt157.1)) then (if (wrap64 (bt157.2.1 + bt157.1)) ≤ (s0_0.length : Int) then (some (strOfNums ((s0_0.take ((wrap64 (bt157.2.1 + bt157.1)) : Int).toNat).drop ((wrap64 ((wrap64 (bt157.2.1 + bt157.1)) - bt157.1)) : Int).toNat), (wrap64 (bt157.2.1 + bt157.1)), bt157.2.2)) else (none)) else (none)) else (none))))
theorem spec_l10ReadText.mono : ∀ a0 a1 a2 k, LeO (spec_l10ReadText.f k a0 a1 a2) (spec_l10ReadText.f (k + 1) a0 a1 a2) := by
  intro a0 a1 a2 k
  unfold spec_l10ReadText.f
  repeat' first
      | (with_reducible exact spec_l10Read.mono _ _ _ _)
      | (with_reducible exact LeO.refl _)
      | (with_reducible exact LeO.none _)
      | (with_reducible refine LeO.ite ?_ ?_)
      | (with_reducible refine LeO.bind ?_ (fun _ => ?_))
      | exact spec_l10Read.mono _ _ _ _
      | exact LeO.none _
      | refine LeO.ite ?_ ?_
      | refine LeO.bind ?_ (fun _ => ?_)
theorem str_cut {w : World} {A : Option Addr} {c : Nat} {xs : List Int} {lo hi : Int} (h : (Kd.int .u8).C w A xs.length xs) (hc : xs.length ≤ c) (h0 : 0 ≤ lo) (h1 : lo ≤ hi) (h2 : hi ≤ (xs.length : Int)) :
    (Kd.int .u8).C w (if c = lo.toNat then A else A.map (·.add lo.toNat)) (hi.toNat - lo.toNat) ((xs.take hi.toNat).drop lo.toNat) := by
  have a := Kd.C_take h (m := hi.toNat) (by omega)
  have hl : (xs.take hi.toNat).length = hi.toNat := by rw [List.length_take]; omega
  have b := Kd.C_drop (c := c) (m := lo.toNat) a (by omega) (by omega)
  rw [List.length_drop, hl, show (Kd.int .u8).sz = 1 from rfl, Nat.mul_one] at b
  exact b
set_option maxHeartbeats 8000000 in
set_option maxRecDepth 100000 in
theorem spec_l10ReadText.calls (k : Nat) (g : Nat) (s0_0 : List Int) (s0_1 : Int) (s0_2 : Bool) (r1 : ByteArray) (r2 : Int) (r3 : Bool) (w0 w : World) (hI : IsS72 w0 w g s0_0 s0_1 s0_2) (hB : Below w0.heap.size w0 w) (h : spec_l10ReadText.f k s0_0 s0_1 s0_2 = some (r1, r2, r3)) :
    Calls Try.prog 56 #[.pointer (some ⟨g, 0, none⟩)] w fun e w' => e = .returned (.string r1) ∧ IsS72 w0 w' g s0_0 r2 r3 ∧ Below w0.heap.size w0 w' ∧ KeepBut w w' g none := by
  have HI0 := Aside0.mk hI
  have HK := Aside0.mk (KeepBut.refl w g none)
  have HL := Aside0.mk hB.size
  clear hI
  have HW0 := Aside0.mk hB.size
  have HB := Aside0.mk hB
  clear hB
  have H : ((spec_l10Read.f k s0_0 s0_1 s0_2).bind fun bt157 => (if bt157.2.2 = true then (some ((⟨#[]⟩ : ByteArray), bt157.2.1, true)) else (if bt157.1 > (wrap64 ((s0_0.length : Int) - bt157.2.1)) then (some ((⟨#[]⟩ : ByteArray), bt157.2.1, true)) else (if 0 ≤ (wrap64 ((wrap64 (bt157.2.1 + bt157.1)) - bt157.1)) then (if (wrap64 ((wrap64 (bt157.2.1 + bt157.1)) - bt157.1)) ≤ (wrap64 (bt157.2.1 + bt157.1)) then (if (wrap64 (bt157.2.1 + bt157.1)) ≤ (s0_0.length : Int) then (some (strOfNums ((s0_0.take ((wrap64 (bt157.2.1 + bt157.1)) : Int).toNat).drop ((wrap64 ((wrap64 (bt157.2.1 + bt157.1)) - bt157.1)) : Int).toNat), (wrap64 (bt157.2.1 + bt157.1)), bt157.2.2)) else (none)) else (none)) else (none))))) = some (r1, r2, r3) := h
  clear h
  replace H := Option.bind_eq_some_iff.mp H
  obtain ⟨⟨t157, t158, t159⟩, A20, H⟩ := H
  replace H : (if t159 = true then (some ((⟨#[]⟩ : ByteArray), t158, true)) else (if t157 > (wrap64 ((s0_0.length : Int) - t158)) then (some ((⟨#[]⟩ : ByteArray), t158, true)) else (if 0 ≤ (wrap64 ((wrap64 (t158 + t157)) - t157)) then (if (wrap64 ((wrap64 (t158 + t157)) - t157)) ≤ (wrap64 (t158 + t157)) then (if (wrap64 (t158 + t157)) ≤ (s0_0.length : Int) then (some (strOfNums ((s0_0.take ((wrap64 (t158 + t157)) : Int).toNat).drop ((wrap64 ((wrap64 (t158 + t157)) - t157)) : Int).toNat), (wrap64 (t158 + t157)), t159)) else (none)) else (none)) else (none)))) = some (r1, r2, r3) := H
  have A2 := Aside0.mk A20
  clear A20
  by_cases c3 : t159 = true
  · subst c3
    have H1 : (some ((⟨#[]⟩ : ByteArray), t158, true)) = some (r1, r2, r3) := by rw [if_pos rfl] at H; exact H
    clear H
    have H := H1
    clear H1
    simp only [Option.some.injEq, Prod.mk.injEq] at H
    obtain ⟨rfl, rfl, rfl⟩ := H
    go_enter Try.func56, Try.ntmps56
    go_wp2_with (first | (go_at_call 55; (with_reducible refine (spec_l10Read.calls k g s0_0 s0_1 s0_2 t157 t158 true w0 _ ?side1 ?side2 A2.out).mono ?_); (case side1 => repeat (first | (with_reducible first | exact HI0.out | apply IsS72.alloc | apply IsS72.drewN | apply IsS72.drew | apply IsS72.set_1 | apply IsS72.set_2) | exact HI0.out)); (case side2 => repeat (first | (with_reducible first | exact HB.out | apply below_alloc | apply pw_below_drewN | apply below_drew1 | refine below_set ?_ (IsS72.ge HI0.out)) | exact HB.out)); rintro e w4 ⟨rfl, hi, hb, hk⟩; have n0_ := Aside0.mk (KeepBut.trans (by repeat (first | (with_reducible first | exact HK.out | apply KeepBut.set_ | apply keep_drewN | apply keep_drew | apply keep_alloc) | exact HK.out)) hk (.inl rfl)); have n1_ := Aside0.mk (hb); have n2_ := Aside0.mk (hi); clear HK; clear HB; clear HI0; have HK := n0_; have HB := n1_; have HI0 := n2_; clear n0_ n1_ n2_; (try clear hb); (try clear hb2); (try clear hk); (try clear hi); obtain ⟨ASz5_0, cSz5_0, HGz5, hgz5, HSz5_0, HCz5_0⟩ := HI0.out; have hcz5_0 := cellS72_0 HGz5; have hcz5_1 := cellS72_1 HGz5; have hcz5_2 := cellS72_2 HGz5; have hfz5_1 := blk_frozen HGz5 1; have hfz5_2 := blk_frozen HGz5 2; clear HGz5 hgz5))
    repeat (go_quiet (first | (go_at_call 55; (with_reducible refine (spec_l10Read.calls k g s0_0 s0_1 s0_2 t157 t158 true w0 _ ?side1 ?side2 A2.out).mono ?_); (case side1 => repeat (first | (with_reducible first | exact HI0.out | apply IsS72.alloc | apply IsS72.drewN | apply IsS72.drew | apply IsS72.set_1 | apply IsS72.set_2) | exact HI0.out)); (case side2 => repeat (first | (with_reducible first | exact HB.out | apply below_alloc | apply pw_below_drewN | apply below_drew1 | refine below_set ?_ (IsS72.ge HI0.out)) | exact HB.out)); rintro e w4 ⟨rfl, hi, hb, hk⟩; have n0_ := Aside0.mk (KeepBut.trans (by repeat (first | (with_reducible first | exact HK.out | apply KeepBut.set_ | apply keep_drewN | apply keep_drew | apply keep_alloc) | exact HK.out)) hk (.inl rfl)); have n1_ := Aside0.mk (hb); have n2_ := Aside0.mk (hi); clear HK; clear HB; clear HI0; have HK := n0_; have HB := n1_; have HI0 := n2_; clear n0_ n1_ n2_; (try clear hb); (try clear hb2); (try clear hk); (try clear hi); obtain ⟨ASz5_0, cSz5_0, HGz5, hgz5, HSz5_0, HCz5_0⟩ := HI0.out; have hcz5_0 := cellS72_0 HGz5; have hcz5_1 := cellS72_1 HGz5; have hcz5_2 := cellS72_2 HGz5; have hfz5_1 := blk_frozen HGz5 1; have hfz5_2 := blk_frozen HGz5 2; clear HGz5 hgz5)); try go_wp2_with (first | (go_at_call 55; (with_reducible refine (spec_l10Read.calls k g s0_0 s0_1 s0_2 t157 t158 true w0 _ ?side1 ?side2 A2.out).mono ?_); (case side1 => repeat (first | (with_reducible first | exact HI0.out | apply IsS72.alloc | apply IsS72.drewN | apply IsS72.drew | apply IsS72.set_1 | apply IsS72.set_2) | exact HI0.out)); (case side2 => repeat (first | (with_reducible first | exact HB.out | apply below_alloc | apply pw_below_drewN | apply below_drew1 | refine below_set ?_ (IsS72.ge HI0.out)) | exact HB.out)); rintro e w4 ⟨rfl, hi, hb, hk⟩; have n0_ := Aside0.mk (KeepBut.trans (by repeat (first | (with_reducible first | exact HK.out | apply KeepBut.set_ | apply keep_drewN | apply keep_drew | apply keep_alloc) | exact HK.out)) hk (.inl rfl)); have n1_ := Aside0.mk (hb); have n2_ := Aside0.mk (hi); clear HK; clear HB; clear HI0; have HK := n0_; have HB := n1_; have HI0 := n2_; clear n0_ n1_ n2_; (try clear hb); (try clear hb2); (try clear hk); (try clear hi); obtain ⟨ASz5_0, cSz5_0, HGz5, hgz5, HSz5_0, HCz5_0⟩ := HI0.out; have hcz5_0 := cellS72_0 HGz5; have hcz5_1 := cellS72_1 HGz5; have hcz5_2 := cellS72_2 HGz5; have hfz5_1 := blk_frozen HGz5 1; have hfz5_2 := blk_frozen HGz5 2; clear HGz5 hgz5)))
    go_ret
    exact ⟨by first | rfl | (simp [errW_none, errW_some] <;> rfl) | (simp [*, errW_none, errW_some] <;> rfl), by repeat (first | (with_reducible first | exact HI0.out | apply IsS72.alloc | apply IsS72.drewN | apply IsS72.drew | apply IsS72.set_1 | apply IsS72.set_2) | exact HI0.out), by repeat (first | (with_reducible first | exact HB.out | apply below_alloc | apply pw_below_drewN | apply below_drew1 | refine below_set ?_ (IsS72.ge HI0.out)) | exact HB.out), by repeat (first | (with_reducible first | exact HK.out | apply KeepBut.set_ | apply keep_drewN | apply keep_drew | apply keep_alloc) | exact HK.out)⟩
  · replace c3 := Bool.eq_false_iff.mpr c3
    subst c3
    have H1 : (if t157 > (wrap64 ((s0_0.length : Int) - t158)) then (some ((⟨#[]⟩ : ByteArray), t158, true)) else (if 0 ≤ (wrap64 ((wrap64 (t158 + t157)) - t157)) then (if (wrap64 ((wrap64 (t158 + t157)) - t157)) ≤ (wrap64 (t158 + t157)) then (if (wrap64 (t158 + t157)) ≤ (s0_0.length : Int) then (some (strOfNums ((s0_0.take ((wrap64 (t158 + t157)) : Int).toNat).drop ((wrap64 ((wrap64 (t158 + t157)) - t157)) : Int).toNat), (wrap64 (t158 + t157)), false)) else (none)) else (none)) else (none))) = some (r1, r2, r3) := by rw [if_neg (show ¬ (false = true) by decide)] at H; exact H
    clear H
    have H := H1
    clear H1
    by_cases c6 : t157 > (wrap64 ((s0_0.length : Int) - t158))
    · rw [if_pos c6] at H
      have c6b0 : decide ((wrap64 ((s0_0.length : Int) - t158)) < t157) = true := decide_eq_true c6
      clear c6
      simp only [Option.some.injEq, Prod.mk.injEq] at H
      obtain ⟨rfl, rfl, rfl⟩ := H
      go_enter Try.func56, Try.ntmps56
      go_wp2_with (first | (go_at_call 55; (with_reducible refine (spec_l10Read.calls k g s0_0 s0_1 s0_2 t157 t158 false w0 _ ?side1 ?side2 A2.out).mono ?_); (case side1 => repeat (first | (with_reducible first | exact HI0.out | apply IsS72.alloc | apply IsS72.drewN | apply IsS72.drew | apply IsS72.set_1 | apply IsS72.set_2) | exact HI0.out)); (case side2 => repeat (first | (with_reducible first | exact HB.out | apply below_alloc | apply pw_below_drewN | apply below_drew1 | refine below_set ?_ (IsS72.ge HI0.out)) | exact HB.out)); rintro e w7 ⟨rfl, hi, hb, hk⟩; have n0_ := Aside0.mk (KeepBut.trans (by repeat (first | (with_reducible first | exact HK.out | apply KeepBut.set_ | apply keep_drewN | apply keep_drew | apply keep_alloc) | exact HK.out)) hk (.inl rfl)); have n1_ := Aside0.mk (hb); have n2_ := Aside0.mk (hi); clear HK; clear HB; clear HI0; have HK := n0_; have HB := n1_; have HI0 := n2_; clear n0_ n1_ n2_; (try clear hb); (try clear hb2); (try clear hk); (try clear hi); obtain ⟨ASz8_0, cSz8_0, HGz8, hgz8, HSz8_0, HCz8_0⟩ := HI0.out; have hcz8_0 := cellS72_0 HGz8; have hcz8_1 := cellS72_1 HGz8; have hcz8_2 := cellS72_2 HGz8; have hfz8_1 := blk_frozen HGz8 1; have hfz8_2 := blk_frozen HGz8 2; clear HGz8 hgz8))
      repeat (go_quiet (first | (go_at_call 55; (with_reducible refine (spec_l10Read.calls k g s0_0 s0_1 s0_2 t157 t158 false w0 _ ?side1 ?side2 A2.out).mono ?_); (case side1 => repeat (first | (with_reducible first | exact HI0.out | apply IsS72.alloc | apply IsS72.drewN | apply IsS72.drew | apply IsS72.set_1 | apply IsS72.set_2) | exact HI0.out)); (case side2 => repeat (first | (with_reducible first | exact HB.out | apply below_alloc | apply pw_below_drewN | apply below_drew1 | refine below_set ?_ (IsS72.ge HI0.out)) | exact HB.out)); rintro e w7 ⟨rfl, hi, hb, hk⟩; have n0_ := Aside0.mk (KeepBut.trans (by repeat (first | (with_reducible first | exact HK.out | apply KeepBut.set_ | apply keep_drewN | apply keep_drew | apply keep_alloc) | exact HK.out)) hk (.inl rfl)); have n1_ := Aside0.mk (hb); have n2_ := Aside0.mk (hi); clear HK; clear HB; clear HI0; have HK := n0_; have HB := n1_; have HI0 := n2_; clear n0_ n1_ n2_; (try clear hb); (try clear hb2); (try clear hk); (try clear hi); obtain ⟨ASz8_0, cSz8_0, HGz8, hgz8, HSz8_0, HCz8_0⟩ := HI0.out; have hcz8_0 := cellS72_0 HGz8; have hcz8_1 := cellS72_1 HGz8; have hcz8_2 := cellS72_2 HGz8; have hfz8_1 := blk_frozen HGz8 1; have hfz8_2 := blk_frozen HGz8 2; clear HGz8 hgz8)); try go_wp2_with (first | (go_at_call 55; (with_reducible refine (spec_l10Read.calls k g s0_0 s0_1 s0_2 t157 t158 false w0 _ ?side1 ?side2 A2.out).mono ?_); (case side1 => repeat (first | (with_reducible first | exact HI0.out | apply IsS72.alloc | apply IsS72.drewN | apply IsS72.drew | apply IsS72.set_1 | apply IsS72.set_2) | exact HI0.out)); (case side2 => repeat (first | (with_reducible first | exact HB.out | apply below_alloc | apply pw_below_drewN | apply below_drew1 | refine below_set ?_ (IsS72.ge HI0.out)) | exact HB.out)); rintro e w7 ⟨rfl, hi, hb, hk⟩; have n0_ := Aside0.mk (KeepBut.trans (by repeat (first | (with_reducible first | exact HK.out | apply KeepBut.set_ | apply keep_drewN | apply keep_drew | apply keep_alloc) | exact HK.out)) hk (.inl rfl)); have n1_ := Aside0.mk (hb); have n2_ := Aside0.mk (hi); clear HK; clear HB; clear HI0; have HK := n0_; have HB := n1_; have HI0 := n2_; clear n0_ n1_ n2_; (try clear hb); (try clear hb2); (try clear hk); (try clear hi); obtain ⟨ASz8_0, cSz8_0, HGz8, hgz8, HSz8_0, HCz8_0⟩ := HI0.out; have hcz8_0 := cellS72_0 HGz8; have hcz8_1 := cellS72_1 HGz8; have hcz8_2 := cellS72_2 HGz8; have hfz8_1 := blk_frozen HGz8 1; have hfz8_2 := blk_frozen HGz8 2; clear HGz8 hgz8)))
      go_ret
      exact ⟨by first | rfl | (simp [errW_none, errW_some] <;> rfl) | (simp [*, errW_none, errW_some] <;> rfl), by repeat (first | (with_reducible first | exact HI0.out | apply IsS72.alloc | apply IsS72.drewN | apply IsS72.drew | apply IsS72.set_1 | apply IsS72.set_2) | exact HI0.out), by repeat (first | (with_reducible first | exact HB.out | apply below_alloc | apply pw_below_drewN | apply below_drew1 | refine below_set ?_ (IsS72.ge HI0.out)) | exact HB.out), by repeat (first | (with_reducible first | exact HK.out | apply KeepBut.set_ | apply keep_drewN | apply keep_drew | apply keep_alloc) | exact HK.out)⟩
    · rw [if_neg c6] at H
      have c6b0 : decide ((wrap64 ((s0_0.length : Int) - t158)) < t157) = false := decide_eq_false c6
      clear c6
      by_cases c91 : ¬ (0 ≤ (wrap64 ((wrap64 (t158 + t157)) - t157)))
      · rw [if_neg c91] at H; exact absurd H (by simp)
      replace c91 := Classical.not_not.mp c91
      rw [if_pos c91] at H
      by_cases c92 : ¬ ((wrap64 ((wrap64 (t158 + t157)) - t157)) ≤ (wrap64 (t158 + t157)))
      · rw [if_neg c92] at H; exact absurd H (by simp)
      replace c92 := Classical.not_not.mp c92
      rw [if_pos c92] at H
      by_cases c93 : ¬ ((wrap64 (t158 + t157)) ≤ (s0_0.length : Int))
      · rw [if_neg c93] at H; exact absurd H (by simp)
      replace c93 := Classical.not_not.mp c93
      rw [if_pos c93] at H
      simp only [Option.some.injEq, Prod.mk.injEq] at H
      obtain ⟨rfl, rfl, rfl⟩ := H
      go_enter Try.func56, Try.ntmps56
      go_wp2_with (first | (go_at_call 55; (with_reducible refine (spec_l10Read.calls k g s0_0 s0_1 s0_2 t157 t158 false w0 _ ?side1 ?side2 A2.out).mono ?_); (case side1 => repeat (first | (with_reducible first | exact HI0.out | apply IsS72.alloc | apply IsS72.drewN | apply IsS72.drew | apply IsS72.set_1 | apply IsS72.set_2) | exact HI0.out)); (case side2 => repeat (first | (with_reducible first | exact HB.out | apply below_alloc | apply pw_below_drewN | apply below_drew1 | refine below_set ?_ (IsS72.ge HI0.out)) | exact HB.out)); rintro e w9 ⟨rfl, hi, hb, hk⟩; have n0_ := Aside0.mk (KeepBut.trans (by repeat (first | (with_reducible first | exact HK.out | apply KeepBut.set_ | apply keep_drewN | apply keep_drew | apply keep_alloc) | exact HK.out)) hk (.inl rfl)); have n1_ := Aside0.mk (hb); have n2_ := Aside0.mk (hi); clear HK; clear HB; clear HI0; have HK := n0_; have HB := n1_; have HI0 := n2_; clear n0_ n1_ n2_; (try clear hb); (try clear hb2); (try clear hk); (try clear hi); obtain ⟨ASz10_0, cSz10_0, HGz10, hgz10, HSz10_0, HCz10_0⟩ := HI0.out; have hcz10_0 := cellS72_0 HGz10; have hcz10_1 := cellS72_1 HGz10; have hcz10_2 := cellS72_2 HGz10; have hfz10_1 := blk_frozen HGz10 1; have hfz10_2 := blk_frozen HGz10 2; clear HGz10 hgz10; obtain ⟨i0_, hi0_, _, hsz0_, _⟩ := info_parts info5; have hcut_ := cut_mid (P := Try.prog) 22 5 .i64 .i64 Try.underlying22 hi0_ 1 hsz0_ ASz10_0 s0_0.length cSz10_0 (wrap64 ((wrap64 (t158 + t157)) - t157)) (wrap64 (t158 + t157)) c91 c92 c93 HCz10_0; have hcc_ := str_cut HSz10_0 HCz10_0 c91 c92 c93; have hcv_ := fun (m_ n_ c_ : Nat) (v_ : Value) => Kd.C_string (P := Try.prog) (src := 22) (dst := 9) (c := c_) Try.underlying22 Try.underlying5 Try.underlying9 (Kd.C_below hcc_ (pw_below_drewN (below_set (g := g) (j := 1) (v := v_) (pw_below_drewN HB.out m_) (IsS72.ge HI0.out)) n_))))
      repeat (go_quiet (first | (go_at_call 55; (with_reducible refine (spec_l10Read.calls k g s0_0 s0_1 s0_2 t157 t158 false w0 _ ?side1 ?side2 A2.out).mono ?_); (case side1 => repeat (first | (with_reducible first | exact HI0.out | apply IsS72.alloc | apply IsS72.drewN | apply IsS72.drew | apply IsS72.set_1 | apply IsS72.set_2) | exact HI0.out)); (case side2 => repeat (first | (with_reducible first | exact HB.out | apply below_alloc | apply pw_below_drewN | apply below_drew1 | refine below_set ?_ (IsS72.ge HI0.out)) | exact HB.out)); rintro e w9 ⟨rfl, hi, hb, hk⟩; have n0_ := Aside0.mk (KeepBut.trans (by repeat (first | (with_reducible first | exact HK.out | apply KeepBut.set_ | apply keep_drewN | apply keep_drew | apply keep_alloc) | exact HK.out)) hk (.inl rfl)); have n1_ := Aside0.mk (hb); have n2_ := Aside0.mk (hi); clear HK; clear HB; clear HI0; have HK := n0_; have HB := n1_; have HI0 := n2_; clear n0_ n1_ n2_; (try clear hb); (try clear hb2); (try clear hk); (try clear hi); obtain ⟨ASz10_0, cSz10_0, HGz10, hgz10, HSz10_0, HCz10_0⟩ := HI0.out; have hcz10_0 := cellS72_0 HGz10; have hcz10_1 := cellS72_1 HGz10; have hcz10_2 := cellS72_2 HGz10; have hfz10_1 := blk_frozen HGz10 1; have hfz10_2 := blk_frozen HGz10 2; clear HGz10 hgz10; obtain ⟨i0_, hi0_, _, hsz0_, _⟩ := info_parts info5; have hcut_ := cut_mid (P := Try.prog) 22 5 .i64 .i64 Try.underlying22 hi0_ 1 hsz0_ ASz10_0 s0_0.length cSz10_0 (wrap64 ((wrap64 (t158 + t157)) - t157)) (wrap64 (t158 + t157)) c91 c92 c93 HCz10_0; have hcc_ := str_cut HSz10_0 HCz10_0 c91 c92 c93; have hcv_ := fun (m_ n_ c_ : Nat) (v_ : Value) => Kd.C_string (P := Try.prog) (src := 22) (dst := 9) (c := c_) Try.underlying22 Try.underlying5 Try.underlying9 (Kd.C_below hcc_ (pw_below_drewN (below_set (g := g) (j := 1) (v := v_) (pw_below_drewN HB.out m_) (IsS72.ge HI0.out)) n_)))); try go_wp2_with (first | (go_at_call 55; (with_reducible refine (spec_l10Read.calls k g s0_0 s0_1 s0_2 t157 t158 false w0 _ ?side1 ?side2 A2.out).mono ?_); (case side1 => repeat (first | (with_reducible first | exact HI0.out | apply IsS72.alloc | apply IsS72.drewN | apply IsS72.drew | apply IsS72.set_1 | apply IsS72.set_2) | exact HI0.out)); (case side2 => repeat (first | (with_reducible first | exact HB.out | apply below_alloc | apply pw_below_drewN | apply below_drew1 | refine below_set ?_ (IsS72.ge HI0.out)) | exact HB.out)); rintro e w9 ⟨rfl, hi, hb, hk⟩; have n0_ := Aside0.mk (KeepBut.trans (by repeat (first | (with_reducible first | exact HK.out | apply KeepBut.set_ | apply keep_drewN | apply keep_drew | apply keep_alloc) | exact HK.out)) hk (.inl rfl)); have n1_ := Aside0.mk (hb); have n2_ := Aside0.mk (hi); clear HK; clear HB; clear HI0; have HK := n0_; have HB := n1_; have HI0 := n2_; clear n0_ n1_ n2_; (try clear hb); (try clear hb2); (try clear hk); (try clear hi); obtain ⟨ASz10_0, cSz10_0, HGz10, hgz10, HSz10_0, HCz10_0⟩ := HI0.out; have hcz10_0 := cellS72_0 HGz10; have hcz10_1 := cellS72_1 HGz10; have hcz10_2 := cellS72_2 HGz10; have hfz10_1 := blk_frozen HGz10 1; have hfz10_2 := blk_frozen HGz10 2; clear HGz10 hgz10; obtain ⟨i0_, hi0_, _, hsz0_, _⟩ := info_parts info5; have hcut_ := cut_mid (P := Try.prog) 22 5 .i64 .i64 Try.underlying22 hi0_ 1 hsz0_ ASz10_0 s0_0.length cSz10_0 (wrap64 ((wrap64 (t158 + t157)) - t157)) (wrap64 (t158 + t157)) c91 c92 c93 HCz10_0; have hcc_ := str_cut HSz10_0 HCz10_0 c91 c92 c93; have hcv_ := fun (m_ n_ c_ : Nat) (v_ : Value) => Kd.C_string (P := Try.prog) (src := 22) (dst := 9) (c := c_) Try.underlying22 Try.underlying5 Try.underlying9 (Kd.C_below hcc_ (pw_below_drewN (below_set (g := g) (j := 1) (v := v_) (pw_below_drewN HB.out m_) (IsS72.ge HI0.out)) n_)))))
      all_goals (go_ret; exact ⟨by first | rfl | (simp [errW_none, errW_some] <;> rfl) | (simp [*, errW_none, errW_some] <;> rfl), by repeat (first | (with_reducible first | exact HI0.out | apply IsS72.alloc | apply IsS72.drewN | apply IsS72.drew | apply IsS72.set_1 | apply IsS72.set_2) | exact HI0.out), by repeat (first | (with_reducible first | exact HB.out | apply below_alloc | apply pw_below_drewN | apply below_drew1 | refine below_set ?_ (IsS72.ge HI0.out)) | exact HB.out), by repeat (first | (with_reducible first | exact HK.out | apply KeepBut.set_ | apply keep_drewN | apply keep_drew | apply keep_alloc) | exact HK.out)⟩)

/-! ### spec_l10Same: function 57 -/
def spec_l10Same.f (l0 : List Int) (l1 : List Int) : Option (Bool) := some ((strOfNums l0).toList == (strOfNums l1).toList)
set_option maxHeartbeats 8000000 in
set_option maxRecDepth 100000 in
theorem spec_l10Same.calls (A0 : Option Addr) (c0 : Nat) (l0 : List Int) (A1 : Option Addr) (c1 : Nat) (l1 : List Int) (r : Bool) (w : World) (hr0 : Kd.C (Kd.int .u8) w A0 l0.length l0) (hc0 : l0.length ≤ c0) (hr1 : Kd.C (Kd.int .u8) w A1 l1.length l1) (hc1 : l1.length ≤ c1) (h : spec_l10Same.f l0 l1 = some r) :
    Calls Try.prog 57 #[.slice A0 l0.length c0, .slice A1 l1.length c1] w fun e w' => e = .returned (.bool r) ∧ Drawn0 w w' := by
  have HR0 := Aside0.mk hr0
  have HC0 := Aside0.mk hc0
  clear hr0 hc0
  have HR1 := Aside0.mk hr1
  have HC1 := Aside0.mk hc1
  clear hr1 hc1
  have H : (some ((strOfNums l0).toList == (strOfNums l1).toList)) = some r := h
  clear h
  obtain rfl := Option.some.inj H
  have hcv3 := Kd.C_string (P := Try.prog) (A := A0) (c := c0) Try.underlying22 Try.underlying5 Try.underlying9 HR0.out
  have hcv4 := Kd.C_string (P := Try.prog) (A := A1) (c := c1) Try.underlying22 Try.underlying5 Try.underlying9 HR1.out
  go_enter Try.func57, Try.ntmps57
  go_wp2
  go_ret
  exact ⟨by first | rfl | (simp; done) | (simp [*]; done), by repeat (first | exact Drawn0.refl _ | apply Drawn0.step)⟩

end Go.Proofs.Ytkijlpiiiejjkaa.PFnExactReadDelta
