-- Laid by a program of this session: a turned copy of the kit's print, with contracts by hand beside.
import Derived.Test.YtkijlpiiiejjkaaPFnExactDeltaBytesx0
import Derived.Test.YtkijlpiiiejjkaaPFnExactDeltaBytesx2
namespace Go.Proofs.Ytkijlpiiiejjkaa.PFnExactDeltaBytes
open Go.RowKit Go.Proofs.YtkijlpiiiejjkaaW.PrintWords Go.Proofs.YtkijlpiiiejjkaaW.PrintLast Go.Proofs.YtkijlpiiiejjkaaW.PrintMore
attribute [local go_sem] max2_int min2_int max_two min_two max_three min_three max_four min_four   -- for this text's walks alone
set_option linter.unusedVariables false
set_option linter.unusedSimpArgs false

/-! ### spec_DeltaBytes: function 29 -/
def spec_DeltaBytes.l0 : Nat → List (S62) → List Int → Int → Option (List Int)
  | 0, _, _, _ => none
  | k + 1, x0, x3, x4 => if x4 < (x0.length : Int) then (if 0 ≤ x4 then ((spec_l14StepOk.f ((rd_T62 x0 x4).f0) ((rd_T62 x0 x4).f1) ((rd_T62 x0 x4).f2) ((rd_T62 x0 x4).f3)).bind fun t152 => (if t152 = true then (if x3.length < 140737488355328 then ((some (x3 ++ [((rd_T62 x0 x4).f0) % 256] : List Int)).bind fun y156 => (if ((rd_T62 x0 x4).f0) = 1 then ((spec_l10Num.f k y156 ((rd_T62 x0 x4).f1)).bind fun t159 => ((spec_l10Num.f k t159 ((rd_T62 x0 x4).f2)).bind fun t162 => (spec_DeltaBytes.l0 k x0 t162 (wrap64 (x4 + 1))))) else ((spec_l10Num.f k y156 (((rd_T62 x0 x4).f3).length : Int)).bind fun t165 => (if t165.length + ((rd_T62 x0 x4).f3).length < 140737488355328 then (spec_DeltaBytes.l0 k x0 (t165 ++ ((rd_T62 x0 x4).f3)) (wrap64 (x4 + 1))) else (none))))) else (none)) else (some (([] : List Int))))) else (none)) else (some x3)
def spec_DeltaBytes.f (k : Nat) (l0 : List (S62)) : Option (List Int) := if (l0.length : Int) > 10000 then (some (([] : List Int))) else (spec_DeltaBytes.l0 k l0 (([76, 68, 84, 49] : List Int)) 0)
theorem spec_DeltaBytes.mono_l : ∀ k, (∀ y0 y1 y2, LeO (spec_DeltaBytes.l0 k y0 y1 y2) (spec_DeltaBytes.l0 (k + 1) y0 y1 y2))
  | 0 => fun _ _ _ r h => by simp [spec_DeltaBytes.l0] at h
  | k + 1 => by
    have ih0 := spec_DeltaBytes.mono_l k
    · intro y0 y1 y2
      unfold spec_DeltaBytes.l0
      repeat' first
      | (with_reducible exact ih0 _ _ _)
      | (with_reducible exact spec_l10Num.mono _ _ _)
      | (with_reducible exact LeO.refl _)
      | (with_reducible exact LeO.none _)
      | (with_reducible refine LeO.ite ?_ ?_)
      | (with_reducible refine LeO.bind ?_ (fun _ => ?_))
      | exact ih0 _ _ _
      | exact spec_l10Num.mono _ _ _
      | exact LeO.none _
      | refine LeO.ite ?_ ?_
      | refine LeO.bind ?_ (fun _ => ?_)
theorem spec_DeltaBytes.mono : ∀ a0 k, LeO (spec_DeltaBytes.f k a0) (spec_DeltaBytes.f (k + 1) a0) := by
  intro a0 k
  have ih0 := spec_DeltaBytes.mono_l k
  unfold spec_DeltaBytes.f
  repeat' first
      | (with_reducible exact ih0 _ _ _)
      | (with_reducible exact spec_l10Num.mono _ _ _)
      | (with_reducible exact LeO.refl _)
      | (with_reducible exact LeO.none _)
      | (with_reducible refine LeO.ite ?_ ?_)
      | (with_reducible refine LeO.bind ?_ (fun _ => ?_))
      | exact ih0 _ _ _
      | exact spec_l10Num.mono _ _ _
      | exact LeO.none _
      | refine LeO.ite ?_ ?_
      | refine LeO.bind ?_ (fun _ => ?_)
def spec_DeltaBytes.T12 : Bool × List (List Nat × List Nat) := (true, [([], []), ([], []), ([1], [1]), ([0, 2], [0, 2]), ([], []), ([4], [4]), ([3, 5, 3], [3, 5]), ([6, 6, 0, 1, 2, 3, 4, 5, 6], [0, 6])])
def spec_DeltaBytes.B12 : List Nat := [0, 0, 2, 7, 0, 16, 63, 127]
theorem spec_DeltaBytes.tab12 : rtab .any (opsOf Try.f29 12) = spec_DeltaBytes.T12 := by kernel_rfl
theorem spec_DeltaBytes.bits12 : waitsOk spec_DeltaBytes.T12.2 spec_DeltaBytes.B12 = true := by kernel_rfl
def spec_DeltaBytes.T13 : Bool × List (List Nat × List Nat) := (true, [([], []), ([], []), ([1], [1]), ([2], [2]), ([0, 3], [0, 3]), ([], []), ([5], [5]), ([4, 6, 4], [4, 6]), ([7, 7, 0, 1, 2, 3, 4, 5, 6, 7], [0, 7])])
def spec_DeltaBytes.B13 : List Nat := [0, 0, 2, 6, 15, 0, 32, 127, 255]
theorem spec_DeltaBytes.tab13 : rtab .any (opsOf Try.f29 13) = spec_DeltaBytes.T13 := by kernel_rfl
theorem spec_DeltaBytes.bits13 : waitsOk spec_DeltaBytes.T13.2 spec_DeltaBytes.B13 = true := by kernel_rfl
set_option maxHeartbeats 8000000 in
set_option maxRecDepth 100000 in
theorem spec_DeltaBytes.callsM (k : Nat) (A0 : Option Addr) (c0 : Nat) (l0 : List (S62)) (r : List Int) (w : World) (hr0 : Kd.C k62 w A0 l0.length l0) (hc0 : l0.length ≤ c0) (h : spec_DeltaBytes.f k l0 = some r) :
    Calls Try.prog 29 #[.slice A0 l0.length c0] w fun e w' => ∃ v0_ : Value, e = .returned (v0_) ∧ Kd.RM 5 w' w.heap.size (fun _ => True) v0_ r ∧ Below w.heap.size w w' := by
  have hu62 := Try.underlying62
  have HR0 := Aside0.mk hr0
  have HC0 := Aside0.mk hc0
  clear hr0 hc0
  have HB := Aside0.mk (Below.refl w.heap.size w)
  have H : (if (l0.length : Int) > 10000 then (some (([] : List Int))) else (spec_DeltaBytes.l0 k l0 (([76, 68, 84, 49] : List Int)) 0)) = some r := h
  clear h
  by_cases c2 : (l0.length : Int) > 10000
  · rw [if_pos c2] at H
    have c2b0 : decide (10000 < (l0.length : Int)) = true := decide_eq_true c2
    have c2b1 : decide (10000 < l0.length) = true := decide_eq_true (by omega)
    clear c2
    obtain ⟨y144, hy144⟩ : ∃ y_ : List Int, y_ = (([] : List Int)) := ⟨_, rfl⟩
    replace H : (some y144) = some r := by first | (rw [hy144]; with_reducible exact H) | (have H2_ := (Option.bind_some _ _).symm.trans H; rw [hy144]; with_reducible exact H2_) | (have H2_ := (Option.bind_some _ _).symm.trans H; with_reducible exact H2_) | with_reducible exact H | (rw [hy144]; exact H) | exact H
    have Ny144 := Aside0.mk hy144
    clear hy144
    obtain rfl := Option.some.inj H
    go_enter Try.func29, Try.ntmps29
    go_wp2_with (first | ((with_reducible refine gate_dst (N := 9) rfl ?_); refine Kd.R_lit (Kd.int .u8) _ 5 ?hg (N := 9) ?hd (xs := ([] : List Int)) (inner := []) (ok := fun _ => True) (okp := fun _ => True) ?hr ?hp (fun _ hk => hk) trivial (Below.refl _ _) (Nat.le_refl _) (by simp) ?_; (case hd => rfl); (case hg => rfl); (case hr => first | (go_simp; done) | (go_simp; rfl)); (case hp => exact (Reps.none _ _)); intro v145 w3 ho4 hb hg_ hnew_; clear hg_ hnew_; (first | rw [← Ny144.out] at ho4 | (simp only [Int.reduceToNat] at ho4; rw [← Ny144.out] at ho4)); have n0_ := Aside0.mk (Kd.R_lower ho4 (below_size (by repeat (first | (with_reducible first | exact HB.out | apply below_alloc | apply pw_below_drewN | apply below_drew1) | exact HB.out)))); have n1_ := Aside0.mk (below_step (by repeat (first | (with_reducible first | exact HB.out | apply below_alloc | apply pw_below_drewN | apply below_drew1) | exact HB.out)) hb); clear HB; have HO146 := n0_; have HB := n1_; clear n0_ n1_; clear hb ho4))
    go_ret
    exact ⟨_, by first | rfl | (simp [errW_none, errW_some] <;> rfl) | (simp [*, errW_none, errW_some] <;> rfl), Kd.RM_of (by (with_reducible repeat (first | apply Kd.R_alloc | apply Kd.R_drewN | apply Kd.R_drew)); exact HO146.out), by repeat (first | (with_reducible first | exact HB.out | apply below_alloc | apply pw_below_drewN | apply below_drew1) | exact HB.out)⟩
  · rw [if_neg c2] at H
    have c2b0 : decide (10000 < (l0.length : Int)) = false := decide_eq_false c2
    have c2b1 : decide (10000 < l0.length) = false := decide_eq_false (by omega)
    clear c2
    obtain ⟨y147, hy147⟩ : ∃ y_ : List Int, y_ = (([76, 68, 84, 49] : List Int)) := ⟨_, rfl⟩
    replace H : (spec_DeltaBytes.l0 k l0 y147 0) = some r := by first | (rw [hy147]; with_reducible exact H) | (have H2_ := (Option.bind_some _ _).symm.trans H; rw [hy147]; with_reducible exact H2_) | (have H2_ := (Option.bind_some _ _).symm.trans H; with_reducible exact H2_) | with_reducible exact H | (rw [hy147]; exact H) | exact H
    have Ny147 := Aside0.mk hy147
    clear hy147
    have H' := Aside0.mk H
    clear H
    go_enter Try.func29, Try.ntmps29
    have kc := fun (w : World) (C : Array Value) (n c : Nat) => Go.Lib.run_convert_bytes_const (P := Try.prog) w 22 5 C n c Try.underlying22 Try.underlying5
    go_wp2
    go_loopg [3, 4] k (fun kq v3 v4 w' => ∃ (x3_1 : List Int) (x4_1 : Int), v4 = .int .i64 x4_1 ∧ Aside0 (spec_DeltaBytes.l0 kq l0 x3_1 x4_1 = some r) ∧ Aside0 (kq ≤ k) ∧ Aside0 (Kd.RM 5 w' w.heap.size (fun _ => True) v3 x3_1) ∧ Aside0 (Below w.heap.size w w'))
    case atStart => exact ⟨(y147), (0), (by first | rfl | (simp; done) | (simp [*]; done)), H', ⟨Nat.le_refl _⟩, ⟨by rw [Ny147.out]; exact Kd.RM_new _ _ _ _ _ (by rfl) (by rfl) (by decide) (by decide)⟩, ⟨by repeat (first | (with_reducible first | exact HB.out | apply below_alloc | apply pw_below_drewN | apply below_drew1) | exact HB.out)⟩⟩
    case round =>
      clear H'
      try clear c2
      try clear c2b0
      try clear c2b1
      try clear p2
      obtain ⟨x3_1, x4_1, rfl, HA, HK1, HO_3, HB⟩ := hrel
      cases gk with
      | zero => exact absurd HA.out (by simp [spec_DeltaBytes.l0])
      | succ k1 =>
        have H := HA.out
        clear HA
        simp only [spec_DeltaBytes.l0] at H
        by_cases c7 : x4_1 < (l0.length : Int)
        · rw [if_pos c7] at H
          have c7b0 : decide (x4_1 < (l0.length : Int)) = true := decide_eq_true c7
          clear c7
          by_cases c8 : 0 ≤ x4_1
          · rw [if_pos c8] at H
            have c8b0 : decide (0 ≤ x4_1) = true := decide_eq_true c8
            clear c8
            replace H := Option.bind_eq_some_iff.mp H
            obtain ⟨t152, A90, H⟩ := H
            replace H : (if t152 = true then (if x3_1.length < 140737488355328 then ((some (x3_1 ++ [((rd_T62 l0 x4_1).f0) % 256] : List Int)).bind fun y156 => (if ((rd_T62 l0 x4_1).f0) = 1 then ((spec_l10Num.f k1 y156 ((rd_T62 l0 x4_1).f1)).bind fun t159 => ((spec_l10Num.f k1 t159 ((rd_T62 l0 x4_1).f2)).bind fun t162 => (spec_DeltaBytes.l0 k1 l0 t162 (wrap64 (x4_1 + 1))))) else ((spec_l10Num.f k1 y156 (((rd_T62 l0 x4_1).f3).length : Int)).bind fun t165 => (if t165.length + ((rd_T62 l0 x4_1).f3).length < 140737488355328 then (spec_DeltaBytes.l0 k1 l0 (t165 ++ ((rd_T62 l0 x4_1).f3)) (wrap64 (x4_1 + 1))) else (none))))) else (none)) else (some (([] : List Int)))) = some r := H
            have A9 := Aside0.mk A90
            clear A90
            by_cases c10 : t152 = true
            · subst c10
              have H1 : (if x3_1.length < 140737488355328 then ((some (x3_1 ++ [((rd_T62 l0 x4_1).f0) % 256] : List Int)).bind fun y156 => (if ((rd_T62 l0 x4_1).f0) = 1 then ((spec_l10Num.f k1 y156 ((rd_T62 l0 x4_1).f1)).bind fun t159 => ((spec_l10Num.f k1 t159 ((rd_T62 l0 x4_1).f2)).bind fun t162 => (spec_DeltaBytes.l0 k1 l0 t162 (wrap64 (x4_1 + 1))))) else ((spec_l10Num.f k1 y156 (((rd_T62 l0 x4_1).f3).length : Int)).bind fun t165 => (if t165.length + ((rd_T62 l0 x4_1).f3).length < 140737488355328 then (spec_DeltaBytes.l0 k1 l0 (t165 ++ ((rd_T62 l0 x4_1).f3)) (wrap64 (x4_1 + 1))) else (none))))) else (none)) = some r := by rw [if_pos rfl] at H; exact H
              clear H
              have H := H1
              clear H1
              by_cases c11 : x3_1.length < 140737488355328
              · rw [if_pos c11] at H
                have LMc11 := Aside0.mk c11
                clear c11
                obtain ⟨y156, hy156⟩ : ∃ y_ : List Int, y_ = (x3_1 ++ [((rd_T62 l0 x4_1).f0) % 256]) := ⟨_, rfl⟩
                replace H : (if ((rd_T62 l0 x4_1).f0) = 1 then ((spec_l10Num.f k1 y156 ((rd_T62 l0 x4_1).f1)).bind fun t159 => ((spec_l10Num.f k1 t159 ((rd_T62 l0 x4_1).f2)).bind fun t162 => (spec_DeltaBytes.l0 k1 l0 t162 (wrap64 (x4_1 + 1))))) else ((spec_l10Num.f k1 y156 (((rd_T62 l0 x4_1).f3).length : Int)).bind fun t165 => (if t165.length + ((rd_T62 l0 x4_1).f3).length < 140737488355328 then (spec_DeltaBytes.l0 k1 l0 (t165 ++ ((rd_T62 l0 x4_1).f3)) (wrap64 (x4_1 + 1))) else (none)))) = some r := by first | (rw [hy156]; with_reducible exact H) | (have H2_ := (Option.bind_some _ _).symm.trans H; rw [hy156]; with_reducible exact H2_) | (have H2_ := (Option.bind_some _ _).symm.trans H; with_reducible exact H2_) | with_reducible exact H | (rw [hy156]; exact H) | exact H
                have Ny156 := Aside0.mk hy156
                clear hy156
                by_cases c12 : ((rd_T62 l0 x4_1).f0) = 1
                · rw [if_pos c12] at H
                  have c12b0 : (((rd_T62 l0 x4_1).f0) == 1) = true := beq_iff_eq.mpr c12
                  have c12b1 : (((rd_T62 l0 x4_1).f0) != 1) = false := bne_eq_false_iff_eq.mpr c12
                  clear c12
                  replace H := Option.bind_eq_some_iff.mp H
                  obtain ⟨t159, A130, H⟩ := H
                  replace H : ((spec_l10Num.f k1 t159 ((rd_T62 l0 x4_1).f2)).bind fun t162 => (spec_DeltaBytes.l0 k1 l0 t162 (wrap64 (x4_1 + 1)))) = some r := H
                  have A13 := Aside0.mk A130
                  clear A130
                  replace H := Option.bind_eq_some_iff.mp H
                  obtain ⟨t162, A140, H⟩ := H
                  replace H : (spec_DeltaBytes.l0 k1 l0 t162 (wrap64 (x4_1 + 1))) = some r := H
                  have A14 := Aside0.mk A140
                  clear A140
                  have H' := Aside0.mk H
                  clear H
                  have p150 : 0 ≤ (x4_1 : Int) := of_decide_eq_true (by first | (with_reducible assumption) | assumption)
                  have q150 : x4_1 < (l0.length : Int) := of_decide_eq_true (by first | (with_reducible assumption) | assumption)
                  obtain ⟨ad150, A150_3, c150_3, e150, hx150_0, hx150_1, hx150_2, hx150_3, hl150_3, hi150_3⟩ := at_T62 HR0.out x4_1 p150 q150
                  cases e150
                  try (replace hx150_0 := (HB.out.cell (World.block_lt_of_cell? w _ hx150_0)).trans hx150_0)
                  try (replace hx150_1 := (HB.out.cell (World.block_lt_of_cell? w _ hx150_1)).trans hx150_1)
                  try (replace hx150_2 := (HB.out.cell (World.block_lt_of_cell? w _ hx150_2)).trans hx150_2)
                  try (replace hx150_3 := (HB.out.cell (World.block_lt_of_cell? w _ hx150_3)).trans hx150_3)
                  have HR150_3 := Aside0.mk hi150_3
                  have HC150_3 := Aside0.mk hl150_3
                  clear hi150_3 hl150_3
                  replace p150 := eq_true p150
                  replace q150 := eq_true q150
                  try go_wp2_with (first | ((with_reducible refine gate_dst (N := 5) rfl ?_); refine box_event ?hg (N := 5) ?hd (cs := #[.int .i64 0, .int .i64 0, .int .i64 0, .slice none 0 0]) (t := 62) ?hr ?_; (case hd => rfl); (case hg => rfl); (case hr => first | (go_simp; done) | (go_simp; rfl)); intro gb151 hg w15 hbox hb; have n0_ := Aside0.mk (Kd.RM_below (by (with_reducible repeat (first | apply Kd.RM_alloc | apply Kd.RM_drewN | apply Kd.RM_drew)); exact HO_3.out) hb); have n1_ := Aside0.mk (below_step (by repeat (first | (with_reducible first | exact HB.out | apply below_alloc | apply pw_below_drewN | apply below_drew1) | exact HB.out)) hb); have n2_ := Aside0.mk (hbox); have n3_ := Aside0.mk ((by rw [hg]; exact (below_size (by repeat (first | (with_reducible first | exact HB.out | apply below_alloc | apply pw_below_drewN | apply below_drew1) | exact HB.out))) : w.heap.size ≤ gb151)); have n4_ := Aside0.mk ((by rw [hg]; exact (below_size (by repeat (first | (with_reducible first | exact HB.out | apply below_alloc | apply pw_below_drewN | apply below_drew1) | exact HB.out))) : w.heap.size ≤ gb151)); clear HO_3; clear HB; have HO_3 := n0_; have HB := n1_; have BK151 := n2_; have GW151 := n3_; have GE151 := n4_; clear n0_ n1_ n2_ n3_ n4_; clear hb hbox hg; have hcz16_0 : w15.cell? ⟨gb151, 0, none⟩ = some (.int .i64 0) := (blk_cell BK151.out 0).trans rfl; have hcz16_1 : w15.cell? ⟨gb151, 1, none⟩ = some (.int .i64 0) := (blk_cell BK151.out 1).trans rfl; have hcz16_2 : w15.cell? ⟨gb151, 2, none⟩ = some (.int .i64 0) := (blk_cell BK151.out 2).trans rfl; have hcz16_3 : w15.cell? ⟨gb151, 3, none⟩ = some (.slice none 0 0) := (blk_cell BK151.out 3).trans rfl; have hfz16_0 := blk_frozen BK151.out 0; have hfz16_1 := blk_frozen BK151.out 1; have hfz16_2 := blk_frozen BK151.out 2; have hfz16_3 := blk_frozen BK151.out 3) | ((with_reducible refine gate_callee (f := 50) rfl ?_); refine goesL_ (some 23) rfl rfl Try.func50 (by kernel_rfl) rfl #[.agg #[.int .i64 ((rd_T62 l0 x4_1).f0), .int .i64 ((rd_T62 l0 x4_1).f1), .int .i64 ((rd_T62 l0 x4_1).f2), .slice A150_3 ((rd_T62 l0 x4_1).f3).length c150_3]] rfl (by (try simp only [List.map_toArray, List.map_cons, List.map_nil]); first | done | rfl | (simp only [List.length_drop, List.length_take]; rfl)) ?_; (with_reducible refine (spec_l14StepOk.calls ((rd_T62 l0 x4_1).f0) ((rd_T62 l0 x4_1).f1) ((rd_T62 l0 x4_1).f2) _ _ ((rd_T62 l0 x4_1).f3) true _ ?side1 ?side2 A9.out).mono ?_); (case side1 => exact Kd.C_below HR150_3.out (by repeat (first | (with_reducible first | exact HB.out | apply below_alloc | apply pw_below_drewN | apply below_drew1 | refine below_set ?_ GE151.out) | exact HB.out))); (case side2 => exact HC150_3.out); rintro e w17 ⟨rfl, hb⟩; refine ⟨_, rfl, ?_⟩; have n0_ := Aside0.mk (Kd.RM_below (by (with_reducible repeat (first | apply Kd.RM_alloc | apply Kd.RM_drewN | apply Kd.RM_drew)); exact (Kd.RM_mono (Kd.RM_far (p := ⟨gb151, 3, none⟩) (Kd.RM_far (p := ⟨gb151, 2, none⟩) (Kd.RM_far (p := ⟨gb151, 1, none⟩) (Kd.RM_far (p := ⟨gb151, 0, none⟩) (Kd.RM_types HO_3.out BK151.out (by decide)) (fun _ hk => hk.2) (.int .i64 ((rd_T62 l0 x4_1).f0))) (fun _ hk => hk.2) (.int .i64 ((rd_T62 l0 x4_1).f1))) (fun _ hk => hk.2) (.int .i64 ((rd_T62 l0 x4_1).f2))) (fun _ hk => hk.2) (.slice A150_3 ((rd_T62 l0 x4_1).f3).length c150_3)) (fun _ h_ => h_.1))) hb); have n1_ := Aside0.mk (blk_below (g := gb151) (o := .cells #[.int .i64 ((rd_T62 l0 x4_1).f0), .int .i64 ((rd_T62 l0 x4_1).f1), .int .i64 ((rd_T62 l0 x4_1).f2), .slice A150_3 ((rd_T62 l0 x4_1).f3).length c150_3] 62 (0, 0)) (by (with_reducible repeat (first | refine blk_drewN ?_ _ | refine blk_drew ?_ | refine blk_alloc ?_ _)); refine blk_put (cs := #[.int .i64 ((rd_T62 l0 x4_1).f0), .int .i64 ((rd_T62 l0 x4_1).f1), .int .i64 ((rd_T62 l0 x4_1).f2), .slice none 0 0]) ?_ 3 _ rfl; (with_reducible repeat (first | refine blk_drewN ?_ _ | refine blk_drew ?_ | refine blk_alloc ?_ _)); refine blk_put (cs := #[.int .i64 ((rd_T62 l0 x4_1).f0), .int .i64 ((rd_T62 l0 x4_1).f1), .int .i64 0, .slice none 0 0]) ?_ 2 _ rfl; (with_reducible repeat (first | refine blk_drewN ?_ _ | refine blk_drew ?_ | refine blk_alloc ?_ _)); refine blk_put (cs := #[.int .i64 ((rd_T62 l0 x4_1).f0), .int .i64 0, .int .i64 0, .slice none 0 0]) ?_ 1 _ rfl; (with_reducible repeat (first | refine blk_drewN ?_ _ | refine blk_drew ?_ | refine blk_alloc ?_ _)); refine blk_put (cs := #[.int .i64 0, .int .i64 0, .int .i64 0, .slice none 0 0]) ?_ 0 _ rfl; (with_reducible repeat (first | refine blk_drewN ?_ _ | refine blk_drew ?_ | refine blk_alloc ?_ _)); exact BK151.out) hb); have n2_ := Aside0.mk (below_step (by repeat (first | (with_reducible first | exact HB.out | apply below_alloc | apply pw_below_drewN | apply below_drew1 | refine below_set ?_ GE151.out) | exact HB.out)) hb); clear HO_3; clear BK151; clear HB; have HO_3 := n0_; have BK151 := n1_; have HB := n2_; clear n0_ n1_ n2_; (try clear hb); (try clear hb2); (try clear hk); (try clear hi); have hcz18_0 : w17.cell? ⟨gb151, 0, none⟩ = some (.int .i64 ((rd_T62 l0 x4_1).f0)) := (blk_cell BK151.out 0).trans rfl; have hcz18_1 : w17.cell? ⟨gb151, 1, none⟩ = some (.int .i64 ((rd_T62 l0 x4_1).f1)) := (blk_cell BK151.out 1).trans rfl; have hcz18_2 : w17.cell? ⟨gb151, 2, none⟩ = some (.int .i64 ((rd_T62 l0 x4_1).f2)) := (blk_cell BK151.out 2).trans rfl; have hcz18_3 : w17.cell? ⟨gb151, 3, none⟩ = some (.slice A150_3 ((rd_T62 l0 x4_1).f3).length c150_3) := (blk_cell BK151.out 3).trans rfl; have hfz18_0 := blk_frozen BK151.out 0; have hfz18_1 := blk_frozen BK151.out 1; have hfz18_2 := blk_frozen BK151.out 2; have hfz18_3 := blk_frozen BK151.out 3) | ((with_reducible refine gate_builtin (b := .append) (xs := #[.tmp 26, .tmp 30]) rfl ?_); at_builtin; refine Kd.RM_append (Kd.int .u8) (w0 := w) w.heap.size rfl (.tmp 26) (.tmp 30) 22 5 (.int .u8 0) 1 rfl Try.underlying22 info5 rfl (by decide) (by omega) u3 x3_1 (((rd_T62 l0 x4_1).f0) % 256) [.int .u8 (((rd_T62 l0 x4_1).f0) % 256)] (fun _ => True) (fun _ => False) rfl rfl ?aP (fun _ hk => hk.elim) ?aF ?aO ?aB ?aS ?aL ?_; (case aP => exact rfl); (case aB => exact (by repeat (first | (with_reducible first | exact HB.out | apply below_alloc | apply pw_below_drewN | apply below_drew1 | refine below_set ?_ GE151.out) | exact HB.out))); (case aF => exact (fun _ _ => trivial)); (case aO => exact (by (with_reducible repeat (first | apply Kd.RM_alloc | apply Kd.RM_drewN | apply Kd.RM_drew)); exact HO_3.out)); (case aS => exact (below_size (by repeat (first | (with_reducible first | exact HB.out | apply below_alloc | apply pw_below_drewN | apply below_drew1 | refine below_set ?_ GE151.out) | exact HB.out)))); (case aL => have := LMc11.out; omega); intro v157 w19 ho hb hg hat; rw [← Ny156.out] at ho; have n0_ := Aside0.mk (blk_grown (g := gb151) (o := .cells #[.int .i64 ((rd_T62 l0 x4_1).f0), .int .i64 ((rd_T62 l0 x4_1).f1), .int .i64 ((rd_T62 l0 x4_1).f2), .slice A150_3 ((rd_T62 l0 x4_1).f3).length c150_3] 62 (0, 0)) (by (with_reducible repeat (first | refine blk_drewN ?_ _ | refine blk_drew ?_ | refine blk_alloc ?_ _)); exact BK151.out) hg (Kd.RM_ne HO_3.out BK151.out (by decide))); have n1_ := Aside0.mk (hb); have n2_ := Aside0.mk (ho); clear BK151; clear HB; clear HO_3; have BK151 := n0_; have HB := n1_; have HO158 := n2_; clear n0_ n1_ n2_; clear ho hb hg hat; have hcz20_0 : w19.cell? ⟨gb151, 0, none⟩ = some (.int .i64 ((rd_T62 l0 x4_1).f0)) := (blk_cell BK151.out 0).trans rfl; have hcz20_1 : w19.cell? ⟨gb151, 1, none⟩ = some (.int .i64 ((rd_T62 l0 x4_1).f1)) := (blk_cell BK151.out 1).trans rfl; have hcz20_2 : w19.cell? ⟨gb151, 2, none⟩ = some (.int .i64 ((rd_T62 l0 x4_1).f2)) := (blk_cell BK151.out 2).trans rfl; have hcz20_3 : w19.cell? ⟨gb151, 3, none⟩ = some (.slice A150_3 ((rd_T62 l0 x4_1).f3).length c150_3) := (blk_cell BK151.out 3).trans rfl; have hfz20_0 := blk_frozen BK151.out 0; have hfz20_1 := blk_frozen BK151.out 1; have hfz20_2 := blk_frozen BK151.out 2; have hfz20_3 := blk_frozen BK151.out 3))
                  have n0_ := Aside0.mk (Kd.R_drew HO158.out)
                  have n1_ := Aside0.mk (blk_drew BK151.out)
                  have n2_ := Aside0.mk (below_drew1 HB.out)
                  clear HO158
                  clear BK151
                  clear HB
                  have HO158 := n0_
                  have BK151 := n1_
                  have HB := n2_
                  clear n0_ n1_ n2_
                  obtain ⟨Ao22, co22, eo22⟩ := Kd.R_slice HO158.out
                  (first | subst eo22 | (injection eo22 with f1_ f2_ f3_; have f4_ := f1_.symm; have f5_ := f3_.symm; clear f1_ f2_ f3_; subst f4_; subst f5_))
                  refine start_ (n := 8) (S := fun w' => w'.cell? ⟨gb151, 0, none⟩ = some (.int .i64 ((rd_T62 l0 x4_1).f0)) ∧ w'.cell? ⟨gb151, 1, none⟩ = some (.int .i64 ((rd_T62 l0 x4_1).f1)) ∧ w'.cell? ⟨gb151, 2, none⟩ = some (.int .i64 ((rd_T62 l0 x4_1).f2)) ∧ w'.cell? ⟨gb151, 3, none⟩ = some (.slice A150_3 ((rd_T62 l0 x4_1).f3).length c150_3)) (ds := []) #[false, false, false, false, false, false, false, false] (by kernel_rfl) rfl rfl ⟨(blk_cell BK151.out 0).trans rfl, (blk_cell BK151.out 1).trans rfl, (blk_cell BK151.out 2).trans rfl, (blk_cell BK151.out 3).trans rfl⟩ (fun hHeld => ?_); refine with_tabW spec_DeltaBytes.tab12 spec_DeltaBytes.bits12 (fun HT_ HW_ => ?_)
                  generalize w19.drew = w21 at HO158 BK151 HB hHeld ⊢
                  refine pure_ (i := 0) (N := some 35) (v := ?_) (a' := ?_) #[true, false, false, false, false, false, false, false] rfl rfl (any_of HT_.out (by kernel_rfl)) (fun _ _ _ h => h) (Or.inl ⟨by rfl, ?_⟩) ?_ ?_
                  rotate_left
                  · intro w'
                    go_simp
                    with_reducible rfl
                  rotate_left
                  · simp only [Act.put, List.setIfInBounds_toArray, List.set_cons_zero, List.set_cons_succ, i64_w, i32_w]
                    rfl
                  refine pure_ (i := 1) (N := some 36) (v := ?_) (a' := ?_) #[true, true, false, false, false, false, false, false] rfl rfl (any_of HT_.out (by kernel_rfl)) (fun _ _ _ h => h) (Or.inl ⟨by rfl, ?_⟩) ?_ ?_
                  rotate_left
                  · intro w'
                    go_simp
                    with_reducible rfl
                  rotate_left
                  · simp only [Act.put, List.setIfInBounds_toArray, List.set_cons_zero, List.set_cons_succ, i64_w, i32_w]
                    rfl
                  refine pure_ (i := 4) (N := some 39) (v := ?_) (a' := ?_) #[true, true, false, false, true, false, false, false] rfl rfl (any_of HT_.out (by kernel_rfl)) (fun _ _ _ h => h) (Or.inl ⟨by rfl, ?_⟩) ?_ ?_
                  rotate_left
                  · intro w'
                    go_simp
                    with_reducible rfl
                  rotate_left
                  · simp only [Act.put, List.setIfInBounds_toArray, List.set_cons_zero, List.set_cons_succ, i64_w, i32_w]
                    rfl
                  refine take_ (i := 2) (N := some 37) (v := ?_) (a' := ?_) #[true, true, true, false, true, false, false, false] rfl rfl (take_ofW HT_.out HW_.out (by kernel_rfl)) (fun _ _ _ h => h) (Or.inl ⟨by rfl, ?_⟩) hHeld ?_ ?_
                  rotate_left
                  · rintro w' ⟨s0, s1, s2, s3⟩
                    go_simp
                    with_reducible rfl
                  rotate_left
                  · simp only [Act.put, List.setIfInBounds_toArray, List.set_cons_zero, List.set_cons_succ, i64_w, i32_w]
                    rfl
                  refine take_ (i := 5) (N := some 40) (v := ?_) (a' := ?_) #[true, true, true, false, true, true, false, false] rfl rfl (take_ofW HT_.out HW_.out (by kernel_rfl)) (fun _ _ _ h => h) (Or.inl ⟨by rfl, ?_⟩) hHeld ?_ ?_
                  rotate_left
                  · rintro w' ⟨s0, s1, s2, s3⟩
                    go_simp
                    with_reducible rfl
                  rotate_left
                  · simp only [Act.put, List.setIfInBounds_toArray, List.set_cons_zero, List.set_cons_succ, i64_w, i32_w]
                    rfl
                  refine one_ (i := 3) (N := some 38) #[true, true, true, true, true, true, false, false] rfl rfl (one_of HT_.out (by kernel_rfl)) (by decide) (fun K hK => ?_)
                  refine goes_ Try.func53 (by kernel_rfl) rfl #[.slice Ao22 y156.length co22, .int .i64 ((rd_T62 l0 x4_1).f1)] (by rfl) rfl rfl (by (try simp only [List.map_toArray, List.map_cons, List.map_nil]); first | done | rfl | (simp only [List.length_drop, List.length_take]; rfl)) ?_
                  with_reducible refine (spec_l10Num.calls k1 (fun k_ => some k_ = (.slice Ao22 y156.length co22 : Value).ownBlock) (.slice Ao22 y156.length co22) y156 ((rd_T62 l0 x4_1).f1) t159 w _ ?side1 ?side2 A13.out).mono ?_
                  (case side1 => repeat (first | (with_reducible first | exact HB.out | apply below_alloc | apply pw_below_drewN | apply below_drew1 | refine below_set ?_ GE151.out) | exact HB.out))
                  (case side2 => exact Kd.R_tight rfl HO158.out)
                  rintro e w23 ⟨v160, rfl, ho0, hb, hkp⟩
                  refine ⟨_, rfl, ?_⟩
                  have n0_ := Aside0.mk (blk_kept (by (with_reducible repeat (first | refine blk_drewN ?_ _ | refine blk_drew ?_ | refine blk_alloc ?_ _)); exact BK151.out) hkp (fun hs_ => (fun e_ => (Kd.R_ne HO158.out BK151.out (by decide)) e_) hs_))
                  have n1_ := Aside0.mk (Kd.R_mono (ok' := fun k_ => True) ho0 (fun k_ hk_ => trivial))
                  have n2_ := Aside0.mk (hb)
                  clear BK151
                  clear HB
                  clear HO158
                  have BK151 := n0_
                  have HO161 := n1_
                  have HB := n2_
                  clear n0_ n1_ n2_
                  (try clear hb)
                  (try clear hkp)
                  (try clear ho0)
                  obtain ⟨Ao24, co24, eo24⟩ := Kd.R_slice HO161.out
                  (first | subst eo24 | (injection eo24 with f1_ f2_ f3_; have f4_ := f1_.symm; have f5_ := f3_.symm; clear f1_ f2_ f3_; subst f4_; subst f5_))
                  refine hK.out _ _ ⟨(blk_cell BK151.out 0).trans rfl, (blk_cell BK151.out 1).trans rfl, (blk_cell BK151.out 2).trans rfl, (blk_cell BK151.out 3).trans rfl⟩ (fun hHeld => ?_)
                  clear hK K
                  refine norm_ (a' := ?_) ?_ ?_
                  rotate_left
                  · show Act.put _ (some 38) _ = _
                    simp only [Act.put, List.setIfInBounds_toArray, List.set_cons_zero, List.set_cons_succ, i64_w, i32_w]
                    rfl
                  refine one_ (i := 6) (N := some 41) #[true, true, true, true, true, true, true, false] rfl rfl (one_of HT_.out (by kernel_rfl)) (by decide) (fun K hK => ?_)
                  refine goes_ Try.func53 (by kernel_rfl) rfl #[.slice Ao24 t159.length co24, .int .i64 ((rd_T62 l0 x4_1).f2)] (by rfl) rfl rfl (by (try simp only [List.map_toArray, List.map_cons, List.map_nil]); first | done | rfl | (simp only [List.length_drop, List.length_take]; rfl)) ?_
                  with_reducible refine (spec_l10Num.calls k1 (fun k_ => some k_ = (.slice Ao24 t159.length co24 : Value).ownBlock) (.slice Ao24 t159.length co24) t159 ((rd_T62 l0 x4_1).f2) t162 w _ ?side1 ?side2 A14.out).mono ?_
                  (case side1 => repeat (first | (with_reducible first | exact HB.out | apply below_alloc | apply pw_below_drewN | apply below_drew1 | refine below_set ?_ GE151.out) | exact HB.out))
                  (case side2 => exact Kd.R_tight rfl HO161.out)
                  rintro e w25 ⟨v163, rfl, ho0, hb, hkp⟩
                  refine ⟨_, rfl, ?_⟩
                  have n0_ := Aside0.mk (blk_kept (by (with_reducible repeat (first | refine blk_drewN ?_ _ | refine blk_drew ?_ | refine blk_alloc ?_ _)); exact BK151.out) hkp (fun hs_ => (fun e_ => (Kd.R_ne HO161.out BK151.out (by decide)) e_) hs_))
                  have n1_ := Aside0.mk (Kd.R_mono (ok' := fun k_ => True) ho0 (fun k_ hk_ => trivial))
                  have n2_ := Aside0.mk (hb)
                  clear BK151
                  clear HB
                  clear HO161
                  have BK151 := n0_
                  have HO164 := n1_
                  have HB := n2_
                  clear n0_ n1_ n2_
                  (try clear hb)
                  (try clear hkp)
                  (try clear ho0)
                  refine hK.out _ _ ⟨(blk_cell BK151.out 0).trans rfl, (blk_cell BK151.out 1).trans rfl, (blk_cell BK151.out 2).trans rfl, (blk_cell BK151.out 3).trans rfl⟩ (fun hHeld => ?_)
                  clear hK K
                  refine norm_ (a' := ?_) ?_ ?_
                  rotate_left
                  · show Act.put _ (some 41) _ = _
                    simp only [Act.put, List.setIfInBounds_toArray, List.set_cons_zero, List.set_cons_succ, i64_w, i32_w]
                    rfl
                  refine pure_ (i := 7) (N := some 3) (v := ?_) (a' := ?_) #[true, true, true, true, true, true, true, true] rfl rfl (any_of HT_.out (by kernel_rfl)) (fun _ _ _ h => h) (Or.inl ⟨by rfl, ?_⟩) ?_ ?_
                  rotate_left
                  · intro w'
                    go_simp
                    with_reducible rfl
                  rotate_left
                  · simp only [Act.put, List.setIfInBounds_toArray, List.set_cons_zero, List.set_cons_succ, i64_w, i32_w]
                    rfl
                  refine done_ (done_of HT_.out (by kernel_rfl)) ?_
                  try go_wp2
                  go_roundg k1
                  case measure => have := HK1.out; omega
                  case rel => exact ⟨(t162), (wrap64 (x4_1 + 1)), (by first | rfl | (simp; done) | (simp [*]; done)), H', ⟨by have := HK1.out; omega⟩, ⟨Kd.RM_of (by (with_reducible repeat (first | apply Kd.R_alloc | apply Kd.R_drewN | apply Kd.R_drew)); exact HO164.out)⟩, ⟨by repeat (first | (with_reducible first | exact HB.out | apply below_alloc | apply pw_below_drewN | apply below_drew1 | refine below_set ?_ GE151.out) | exact HB.out)⟩⟩
                · rw [if_neg c12] at H
                  have c12b0 : (((rd_T62 l0 x4_1).f0) == 1) = false := beq_eq_false_iff_ne.mpr c12
                  have c12b1 : (((rd_T62 l0 x4_1).f0) != 1) = true := bne_iff_ne.mpr c12
                  replace H := Option.bind_eq_some_iff.mp H
                  obtain ⟨t165, A260, H⟩ := H
                  replace H : (if t165.length + ((rd_T62 l0 x4_1).f3).length < 140737488355328 then (spec_DeltaBytes.l0 k1 l0 (t165 ++ ((rd_T62 l0 x4_1).f3)) (wrap64 (x4_1 + 1))) else (none)) = some r := H
                  have A26 := Aside0.mk A260
                  clear A260
                  by_cases c27 : t165.length + ((rd_T62 l0 x4_1).f3).length < 140737488355328
                  · rw [if_pos c27] at H
                    have LMc27 := Aside0.mk c27
                    clear c27
                    obtain ⟨y168, hy168⟩ : ∃ y_ : List Int, y_ = (t165 ++ ((rd_T62 l0 x4_1).f3)) := ⟨_, rfl⟩
                    replace H : (spec_DeltaBytes.l0 k1 l0 y168 (wrap64 (x4_1 + 1))) = some r := by first | (rw [hy168]; with_reducible exact H) | (have H2_ := (Option.bind_some _ _).symm.trans H; rw [hy168]; with_reducible exact H2_) | (have H2_ := (Option.bind_some _ _).symm.trans H; with_reducible exact H2_) | with_reducible exact H | (rw [hy168]; exact H) | exact H
                    have Ny168 := Aside0.mk hy168
                    clear hy168
                    have H' := Aside0.mk H
                    clear H
                    have p150 : 0 ≤ (x4_1 : Int) := of_decide_eq_true (by first | (with_reducible assumption) | assumption)
                    have q150 : x4_1 < (l0.length : Int) := of_decide_eq_true (by first | (with_reducible assumption) | assumption)
                    obtain ⟨ad150, A150_3, c150_3, e150, hx150_0, hx150_1, hx150_2, hx150_3, hl150_3, hi150_3⟩ := at_T62 HR0.out x4_1 p150 q150
                    cases e150
                    try (replace hx150_0 := (HB.out.cell (World.block_lt_of_cell? w _ hx150_0)).trans hx150_0)
                    try (replace hx150_1 := (HB.out.cell (World.block_lt_of_cell? w _ hx150_1)).trans hx150_1)
                    try (replace hx150_2 := (HB.out.cell (World.block_lt_of_cell? w _ hx150_2)).trans hx150_2)
                    try (replace hx150_3 := (HB.out.cell (World.block_lt_of_cell? w _ hx150_3)).trans hx150_3)
                    have HR150_3 := Aside0.mk hi150_3
                    have HC150_3 := Aside0.mk hl150_3
                    clear hi150_3 hl150_3
                    replace p150 := eq_true p150
                    replace q150 := eq_true q150
                    try go_wp2_with (first | ((with_reducible refine gate_dst (N := 5) rfl ?_); refine box_event ?hg (N := 5) ?hd (cs := #[.int .i64 0, .int .i64 0, .int .i64 0, .slice none 0 0]) (t := 62) ?hr ?_; (case hd => rfl); (case hg => rfl); (case hr => first | (go_simp; done) | (go_simp; rfl)); intro gb151 hg w28 hbox hb; have n0_ := Aside0.mk (Kd.RM_below (by (with_reducible repeat (first | apply Kd.RM_alloc | apply Kd.RM_drewN | apply Kd.RM_drew)); exact HO_3.out) hb); have n1_ := Aside0.mk (below_step (by repeat (first | (with_reducible first | exact HB.out | apply below_alloc | apply pw_below_drewN | apply below_drew1) | exact HB.out)) hb); have n2_ := Aside0.mk (hbox); have n3_ := Aside0.mk ((by rw [hg]; exact (below_size (by repeat (first | (with_reducible first | exact HB.out | apply below_alloc | apply pw_below_drewN | apply below_drew1) | exact HB.out))) : w.heap.size ≤ gb151)); have n4_ := Aside0.mk ((by rw [hg]; exact (below_size (by repeat (first | (with_reducible first | exact HB.out | apply below_alloc | apply pw_below_drewN | apply below_drew1) | exact HB.out))) : w.heap.size ≤ gb151)); clear HO_3; clear HB; have HO_3 := n0_; have HB := n1_; have BK151 := n2_; have GW151 := n3_; have GE151 := n4_; clear n0_ n1_ n2_ n3_ n4_; clear hb hbox hg; have hcz29_0 : w28.cell? ⟨gb151, 0, none⟩ = some (.int .i64 0) := (blk_cell BK151.out 0).trans rfl; have hcz29_1 : w28.cell? ⟨gb151, 1, none⟩ = some (.int .i64 0) := (blk_cell BK151.out 1).trans rfl; have hcz29_2 : w28.cell? ⟨gb151, 2, none⟩ = some (.int .i64 0) := (blk_cell BK151.out 2).trans rfl; have hcz29_3 : w28.cell? ⟨gb151, 3, none⟩ = some (.slice none 0 0) := (blk_cell BK151.out 3).trans rfl; have hfz29_0 := blk_frozen BK151.out 0; have hfz29_1 := blk_frozen BK151.out 1; have hfz29_2 := blk_frozen BK151.out 2; have hfz29_3 := blk_frozen BK151.out 3) | ((with_reducible refine gate_callee (f := 50) rfl ?_); refine goesL_ (some 23) rfl rfl Try.func50 (by kernel_rfl) rfl #[.agg #[.int .i64 ((rd_T62 l0 x4_1).f0), .int .i64 ((rd_T62 l0 x4_1).f1), .int .i64 ((rd_T62 l0 x4_1).f2), .slice A150_3 ((rd_T62 l0 x4_1).f3).length c150_3]] rfl (by (try simp only [List.map_toArray, List.map_cons, List.map_nil]); first | done | rfl | (simp only [List.length_drop, List.length_take]; rfl)) ?_; (with_reducible refine (spec_l14StepOk.calls ((rd_T62 l0 x4_1).f0) ((rd_T62 l0 x4_1).f1) ((rd_T62 l0 x4_1).f2) _ _ ((rd_T62 l0 x4_1).f3) true _ ?side1 ?side2 A9.out).mono ?_); (case side1 => exact Kd.C_below HR150_3.out (by repeat (first | (with_reducible first | exact HB.out | apply below_alloc | apply pw_below_drewN | apply below_drew1 | refine below_set ?_ GE151.out) | exact HB.out))); (case side2 => exact HC150_3.out); rintro e w30 ⟨rfl, hb⟩; refine ⟨_, rfl, ?_⟩; have n0_ := Aside0.mk (Kd.RM_below (by (with_reducible repeat (first | apply Kd.RM_alloc | apply Kd.RM_drewN | apply Kd.RM_drew)); exact (Kd.RM_mono (Kd.RM_far (p := ⟨gb151, 3, none⟩) (Kd.RM_far (p := ⟨gb151, 2, none⟩) (Kd.RM_far (p := ⟨gb151, 1, none⟩) (Kd.RM_far (p := ⟨gb151, 0, none⟩) (Kd.RM_types HO_3.out BK151.out (by decide)) (fun _ hk => hk.2) (.int .i64 ((rd_T62 l0 x4_1).f0))) (fun _ hk => hk.2) (.int .i64 ((rd_T62 l0 x4_1).f1))) (fun _ hk => hk.2) (.int .i64 ((rd_T62 l0 x4_1).f2))) (fun _ hk => hk.2) (.slice A150_3 ((rd_T62 l0 x4_1).f3).length c150_3)) (fun _ h_ => h_.1))) hb); have n1_ := Aside0.mk (blk_below (g := gb151) (o := .cells #[.int .i64 ((rd_T62 l0 x4_1).f0), .int .i64 ((rd_T62 l0 x4_1).f1), .int .i64 ((rd_T62 l0 x4_1).f2), .slice A150_3 ((rd_T62 l0 x4_1).f3).length c150_3] 62 (0, 0)) (by (with_reducible repeat (first | refine blk_drewN ?_ _ | refine blk_drew ?_ | refine blk_alloc ?_ _)); refine blk_put (cs := #[.int .i64 ((rd_T62 l0 x4_1).f0), .int .i64 ((rd_T62 l0 x4_1).f1), .int .i64 ((rd_T62 l0 x4_1).f2), .slice none 0 0]) ?_ 3 _ rfl; (with_reducible repeat (first | refine blk_drewN ?_ _ | refine blk_drew ?_ | refine blk_alloc ?_ _)); refine blk_put (cs := #[.int .i64 ((rd_T62 l0 x4_1).f0), .int .i64 ((rd_T62 l0 x4_1).f1), .int .i64 0, .slice none 0 0]) ?_ 2 _ rfl; (with_reducible repeat (first | refine blk_drewN ?_ _ | refine blk_drew ?_ | refine blk_alloc ?_ _)); refine blk_put (cs := #[.int .i64 ((rd_T62 l0 x4_1).f0), .int .i64 0, .int .i64 0, .slice none 0 0]) ?_ 1 _ rfl; (with_reducible repeat (first | refine blk_drewN ?_ _ | refine blk_drew ?_ | refine blk_alloc ?_ _)); refine blk_put (cs := #[.int .i64 0, .int .i64 0, .int .i64 0, .slice none 0 0]) ?_ 0 _ rfl; (with_reducible repeat (first | refine blk_drewN ?_ _ | refine blk_drew ?_ | refine blk_alloc ?_ _)); exact BK151.out) hb); have n2_ := Aside0.mk (below_step (by repeat (first | (with_reducible first | exact HB.out | apply below_alloc | apply pw_below_drewN | apply below_drew1 | refine below_set ?_ GE151.out) | exact HB.out)) hb); clear HO_3; clear BK151; clear HB; have HO_3 := n0_; have BK151 := n1_; have HB := n2_; clear n0_ n1_ n2_; (try clear hb); (try clear hb2); (try clear hk); (try clear hi); have hcz31_0 : w30.cell? ⟨gb151, 0, none⟩ = some (.int .i64 ((rd_T62 l0 x4_1).f0)) := (blk_cell BK151.out 0).trans rfl; have hcz31_1 : w30.cell? ⟨gb151, 1, none⟩ = some (.int .i64 ((rd_T62 l0 x4_1).f1)) := (blk_cell BK151.out 1).trans rfl; have hcz31_2 : w30.cell? ⟨gb151, 2, none⟩ = some (.int .i64 ((rd_T62 l0 x4_1).f2)) := (blk_cell BK151.out 2).trans rfl; have hcz31_3 : w30.cell? ⟨gb151, 3, none⟩ = some (.slice A150_3 ((rd_T62 l0 x4_1).f3).length c150_3) := (blk_cell BK151.out 3).trans rfl; have hfz31_0 := blk_frozen BK151.out 0; have hfz31_1 := blk_frozen BK151.out 1; have hfz31_2 := blk_frozen BK151.out 2; have hfz31_3 := blk_frozen BK151.out 3) | ((with_reducible refine gate_builtin (b := .append) (xs := #[.tmp 26, .tmp 30]) rfl ?_); at_builtin; refine Kd.RM_append (Kd.int .u8) (w0 := w) w.heap.size rfl (.tmp 26) (.tmp 30) 22 5 (.int .u8 0) 1 rfl Try.underlying22 info5 rfl (by decide) (by omega) u3 x3_1 (((rd_T62 l0 x4_1).f0) % 256) [.int .u8 (((rd_T62 l0 x4_1).f0) % 256)] (fun _ => True) (fun _ => False) rfl rfl ?aP (fun _ hk => hk.elim) ?aF ?aO ?aB ?aS ?aL ?_; (case aP => exact rfl); (case aB => exact (by repeat (first | (with_reducible first | exact HB.out | apply below_alloc | apply pw_below_drewN | apply below_drew1 | refine below_set ?_ GE151.out) | exact HB.out))); (case aF => exact (fun _ _ => trivial)); (case aO => exact (by (with_reducible repeat (first | apply Kd.RM_alloc | apply Kd.RM_drewN | apply Kd.RM_drew)); exact HO_3.out)); (case aS => exact (below_size (by repeat (first | (with_reducible first | exact HB.out | apply below_alloc | apply pw_below_drewN | apply below_drew1 | refine below_set ?_ GE151.out) | exact HB.out)))); (case aL => have := LMc11.out; omega); intro v157 w32 ho hb hg hat; rw [← Ny156.out] at ho; have n0_ := Aside0.mk (blk_grown (g := gb151) (o := .cells #[.int .i64 ((rd_T62 l0 x4_1).f0), .int .i64 ((rd_T62 l0 x4_1).f1), .int .i64 ((rd_T62 l0 x4_1).f2), .slice A150_3 ((rd_T62 l0 x4_1).f3).length c150_3] 62 (0, 0)) (by (with_reducible repeat (first | refine blk_drewN ?_ _ | refine blk_drew ?_ | refine blk_alloc ?_ _)); exact BK151.out) hg (Kd.RM_ne HO_3.out BK151.out (by decide))); have n1_ := Aside0.mk (hb); have n2_ := Aside0.mk (ho); clear BK151; clear HB; clear HO_3; have BK151 := n0_; have HB := n1_; have HO158 := n2_; clear n0_ n1_ n2_; clear ho hb hg hat; have hcz33_0 : w32.cell? ⟨gb151, 0, none⟩ = some (.int .i64 ((rd_T62 l0 x4_1).f0)) := (blk_cell BK151.out 0).trans rfl; have hcz33_1 : w32.cell? ⟨gb151, 1, none⟩ = some (.int .i64 ((rd_T62 l0 x4_1).f1)) := (blk_cell BK151.out 1).trans rfl; have hcz33_2 : w32.cell? ⟨gb151, 2, none⟩ = some (.int .i64 ((rd_T62 l0 x4_1).f2)) := (blk_cell BK151.out 2).trans rfl; have hcz33_3 : w32.cell? ⟨gb151, 3, none⟩ = some (.slice A150_3 ((rd_T62 l0 x4_1).f3).length c150_3) := (blk_cell BK151.out 3).trans rfl; have hfz33_0 := blk_frozen BK151.out 0; have hfz33_1 := blk_frozen BK151.out 1; have hfz33_2 := blk_frozen BK151.out 2; have hfz33_3 := blk_frozen BK151.out 3))
                    have n0_ := Aside0.mk (Kd.R_drew HO158.out)
                    have n1_ := Aside0.mk (blk_drew BK151.out)
                    have n2_ := Aside0.mk (below_drew1 HB.out)
                    clear HO158
                    clear BK151
                    clear HB
                    have HO158 := n0_
                    have BK151 := n1_
                    have HB := n2_
                    clear n0_ n1_ n2_
                    obtain ⟨Ao35, co35, eo35⟩ := Kd.R_slice HO158.out
                    (first | subst eo35 | (injection eo35 with f1_ f2_ f3_; have f4_ := f1_.symm; have f5_ := f3_.symm; clear f1_ f2_ f3_; subst f4_; subst f5_))
                    refine start_ (n := 9) (S := fun w' => w'.cell? ⟨gb151, 0, none⟩ = some (.int .i64 ((rd_T62 l0 x4_1).f0)) ∧ w'.cell? ⟨gb151, 1, none⟩ = some (.int .i64 ((rd_T62 l0 x4_1).f1)) ∧ w'.cell? ⟨gb151, 2, none⟩ = some (.int .i64 ((rd_T62 l0 x4_1).f2)) ∧ w'.cell? ⟨gb151, 3, none⟩ = some (.slice A150_3 ((rd_T62 l0 x4_1).f3).length c150_3)) (ds := []) #[false, false, false, false, false, false, false, false, false] (by kernel_rfl) rfl rfl ⟨(blk_cell BK151.out 0).trans rfl, (blk_cell BK151.out 1).trans rfl, (blk_cell BK151.out 2).trans rfl, (blk_cell BK151.out 3).trans rfl⟩ (fun hHeld => ?_); refine with_tabW spec_DeltaBytes.tab13 spec_DeltaBytes.bits13 (fun HT_ HW_ => ?_)
                    generalize w32.drew = w34 at HO158 BK151 HB hHeld ⊢
                    refine pure_ (i := 0) (N := some 42) (v := ?_) (a' := ?_) #[true, false, false, false, false, false, false, false, false] rfl rfl (any_of HT_.out (by kernel_rfl)) (fun _ _ _ h => h) (Or.inl ⟨by rfl, ?_⟩) ?_ ?_
                    rotate_left
                    · intro w'
                      go_simp
                      with_reducible rfl
                    rotate_left
                    · simp only [Act.put, List.setIfInBounds_toArray, List.set_cons_zero, List.set_cons_succ, i64_w, i32_w]
                      rfl
                    refine pure_ (i := 1) (N := some 43) (v := ?_) (a' := ?_) #[true, true, false, false, false, false, false, false, false] rfl rfl (any_of HT_.out (by kernel_rfl)) (fun _ _ _ h => h) (Or.inl ⟨by rfl, ?_⟩) ?_ ?_
                    rotate_left
                    · intro w'
                      go_simp
                      with_reducible rfl
                    rotate_left
                    · simp only [Act.put, List.setIfInBounds_toArray, List.set_cons_zero, List.set_cons_succ, i64_w, i32_w]
                      rfl
                    refine pure_ (i := 5) (N := some 47) (v := ?_) (a' := ?_) #[true, true, false, false, false, true, false, false, false] rfl rfl (any_of HT_.out (by kernel_rfl)) (fun _ _ _ h => h) (Or.inl ⟨by rfl, ?_⟩) ?_ ?_
                    rotate_left
                    · intro w'
                      go_simp
                      with_reducible rfl
                    rotate_left
                    · simp only [Act.put, List.setIfInBounds_toArray, List.set_cons_zero, List.set_cons_succ, i64_w, i32_w]
                      rfl
                    refine take_ (i := 2) (N := some 44) (v := ?_) (a' := ?_) #[true, true, true, false, false, true, false, false, false] rfl rfl (take_ofW HT_.out HW_.out (by kernel_rfl)) (fun _ _ _ h => h) (Or.inl ⟨by rfl, ?_⟩) hHeld ?_ ?_
                    rotate_left
                    · rintro w' ⟨s0, s1, s2, s3⟩
                      go_simp
                      with_reducible rfl
                    rotate_left
                    · simp only [Act.put, List.setIfInBounds_toArray, List.set_cons_zero, List.set_cons_succ, i64_w, i32_w]
                      rfl
                    refine pure_ (i := 3) (N := some 45) (v := ?_) (a' := ?_) #[true, true, true, true, false, true, false, false, false] rfl rfl (any_of HT_.out (by kernel_rfl)) (fun _ _ _ h => h) (Or.inl ⟨by rfl, ?_⟩) ?_ ?_
                    rotate_left
                    · intro w'
                      go_simp
                      with_reducible rfl
                    rotate_left
                    · simp only [Act.put, List.setIfInBounds_toArray, List.set_cons_zero, List.set_cons_succ, i64_w, i32_w]
                      rfl
                    refine take_ (i := 6) (N := some 48) (v := ?_) (a' := ?_) #[true, true, true, true, false, true, true, false, false] rfl rfl (take_ofW HT_.out HW_.out (by kernel_rfl)) (fun _ _ _ h => h) (Or.inl ⟨by rfl, ?_⟩) hHeld ?_ ?_
                    rotate_left
                    · rintro w' ⟨s0, s1, s2, s3⟩
                      go_simp
                      with_reducible rfl
                    rotate_left
                    · simp only [Act.put, List.setIfInBounds_toArray, List.set_cons_zero, List.set_cons_succ, i64_w, i32_w]
                      rfl
                    refine one_ (i := 4) (N := some 46) #[true, true, true, true, true, true, true, false, false] rfl rfl (one_of HT_.out (by kernel_rfl)) (by decide) (fun K hK => ?_)
                    refine goes_ Try.func53 (by kernel_rfl) rfl #[.slice Ao35 y156.length co35, .int .i64 (((rd_T62 l0 x4_1).f3).length : Int)] (by rfl) rfl rfl (by (try simp only [List.map_toArray, List.map_cons, List.map_nil]); first | done | rfl | (simp only [List.length_drop, List.length_take]; rfl)) ?_
                    with_reducible refine (spec_l10Num.calls k1 (fun k_ => some k_ = (.slice Ao35 y156.length co35 : Value).ownBlock) (.slice Ao35 y156.length co35) y156 (((rd_T62 l0 x4_1).f3).length : Int) t165 w _ ?side1 ?side2 A26.out).mono ?_
                    (case side1 => repeat (first | (with_reducible first | exact HB.out | apply below_alloc | apply pw_below_drewN | apply below_drew1 | refine below_set ?_ GE151.out) | exact HB.out))
                    (case side2 => exact Kd.R_tight rfl HO158.out)
                    rintro e w36 ⟨v166, rfl, ho0, hb, hkp⟩
                    refine ⟨_, rfl, ?_⟩
                    have n0_ := Aside0.mk (blk_kept (by (with_reducible repeat (first | refine blk_drewN ?_ _ | refine blk_drew ?_ | refine blk_alloc ?_ _)); exact BK151.out) hkp (fun hs_ => (fun e_ => (Kd.R_ne HO158.out BK151.out (by decide)) e_) hs_))
                    have n1_ := Aside0.mk (Kd.R_mono (ok' := fun k_ => True) ho0 (fun k_ hk_ => trivial))
                    have n2_ := Aside0.mk (hb)
                    clear BK151
                    clear HB
                    clear HO158
                    have BK151 := n0_
                    have HO167 := n1_
                    have HB := n2_
                    clear n0_ n1_ n2_
                    (try clear hb)
                    (try clear hkp)
                    (try clear ho0)
                    refine hK.out _ _ ⟨(blk_cell BK151.out 0).trans rfl, (blk_cell BK151.out 1).trans rfl, (blk_cell BK151.out 2).trans rfl, (blk_cell BK151.out 3).trans rfl⟩ (fun hHeld => ?_)
                    clear hK K
                    refine norm_ (a' := ?_) ?_ ?_
                    rotate_left
                    · show Act.put _ (some 46) _ = _
                      simp only [Act.put, List.setIfInBounds_toArray, List.set_cons_zero, List.set_cons_succ, i64_w, i32_w]
                      rfl
                    refine one_ (i := 7) (N := some 49) #[true, true, true, true, true, true, true, true, false] rfl rfl (one_of HT_.out (by kernel_rfl)) (by decide) (fun K hK => ?_)
                    refine Kd.R_append_rows_step (Kd.int .u8) (w0 := w) w.heap.size (by rfl) (.tmp 46) (.tmp 48) 22 5 (.int .u8 0) 1 rfl Try.underlying22 info5 rfl (by decide) (by omega) v166 t165 ((rd_T62 l0 x4_1).f3) _ _ _ (fun _ => True) (fun _ => False) rfl rfl ?aO ?aR (fun _ _ h => h) (fun _ h => h.elim) ?aF ?aB ?aS ?aL ?_
                    (case aR => repeat (first | exact (Kd.C_below HR150_3.out HB.out) | (with_reducible refine Kd.C_alloc ?_ _) | (with_reducible refine Kd.C_drewN ?_ _) | (with_reducible refine Kd.C_drew ?_)))
                    (case aB => exact (by repeat (first | (with_reducible first | exact HB.out | apply below_alloc | apply pw_below_drewN | apply below_drew1 | refine below_set ?_ GE151.out) | exact HB.out)))
                    (case aF => exact (fun _ _ => trivial))
                    (case aO => exact (by (with_reducible repeat (first | apply Kd.R_alloc | apply Kd.R_drewN | apply Kd.R_drew)); exact HO167.out))
                    (case aS => exact (below_size (by repeat (first | (with_reducible first | exact HB.out | apply below_alloc | apply pw_below_drewN | apply below_drew1 | refine below_set ?_ GE151.out) | exact HB.out))))
                    (case aL => have := LMc27.out; omega)
                    intro v169 w37 ho hb hg hat
                    rw [← Ny168.out] at ho
                    have n0_ := Aside0.mk (blk_grown (g := gb151) (o := .cells #[.int .i64 ((rd_T62 l0 x4_1).f0), .int .i64 ((rd_T62 l0 x4_1).f1), .int .i64 ((rd_T62 l0 x4_1).f2), .slice A150_3 ((rd_T62 l0 x4_1).f3).length c150_3] 62 (0, 0)) (by (with_reducible repeat (first | refine blk_drewN ?_ _ | refine blk_drew ?_ | refine blk_alloc ?_ _)); exact BK151.out) hg (Kd.R_ne HO167.out BK151.out (by decide)))
                    have n1_ := Aside0.mk (hb)
                    have n2_ := Aside0.mk (ho)
                    clear BK151
                    clear HB
                    clear HO167
                    have BK151 := n0_
                    have HB := n1_
                    have HO170 := n2_
                    clear n0_ n1_ n2_
                    clear ho hb hg hat
                    refine hK.out _ _ ⟨(blk_cell BK151.out 0).trans rfl, (blk_cell BK151.out 1).trans rfl, (blk_cell BK151.out 2).trans rfl, (blk_cell BK151.out 3).trans rfl⟩ (fun hHeld => ?_)
                    clear hK K
                    refine norm_ (a' := ?_) ?_ ?_
                    rotate_left
                    · show Act.put _ (some 49) _ = _
                      simp only [Act.put, List.setIfInBounds_toArray, List.set_cons_zero, List.set_cons_succ, i64_w, i32_w]
                      rfl
                    refine pure_ (i := 8) (N := some 3) (v := ?_) (a' := ?_) #[true, true, true, true, true, true, true, true, true] rfl rfl (any_of HT_.out (by kernel_rfl)) (fun _ _ _ h => h) (Or.inl ⟨by rfl, ?_⟩) ?_ ?_
                    rotate_left
                    · intro w'
                      go_simp
                      with_reducible rfl
                    rotate_left
                    · simp only [Act.put, List.setIfInBounds_toArray, List.set_cons_zero, List.set_cons_succ, i64_w, i32_w]
                      rfl
                    refine done_ (done_of HT_.out (by kernel_rfl)) ?_
                    try go_wp2
                    go_roundg k1
                    case measure => have := HK1.out; omega
                    case rel => exact ⟨(y168), (wrap64 (x4_1 + 1)), (by first | rfl | (simp; done) | (simp [*]; done)), H', ⟨by have := HK1.out; omega⟩, ⟨Kd.RM_of (by (with_reducible repeat (first | apply Kd.R_alloc | apply Kd.R_drewN | apply Kd.R_drew)); exact HO170.out)⟩, ⟨by repeat (first | (with_reducible first | exact HB.out | apply below_alloc | apply pw_below_drewN | apply below_drew1 | refine below_set ?_ GE151.out) | exact HB.out)⟩⟩
                  · rw [if_neg c27] at H
                    exact absurd H (by simp)
              · rw [if_neg c11] at H
                exact absurd H (by simp)
            · replace c10 := Bool.eq_false_iff.mpr c10
              subst c10
              have H1 : (some (([] : List Int))) = some r := by rw [if_neg (show ¬ (false = true) by decide)] at H; exact H
              clear H
              have H := H1
              clear H1
              obtain ⟨y153, hy153⟩ : ∃ y_ : List Int, y_ = (([] : List Int)) := ⟨_, rfl⟩
              replace H : (some y153) = some r := by first | (rw [hy153]; with_reducible exact H) | (have H2_ := (Option.bind_some _ _).symm.trans H; rw [hy153]; with_reducible exact H2_) | (have H2_ := (Option.bind_some _ _).symm.trans H; with_reducible exact H2_) | with_reducible exact H | (rw [hy153]; exact H) | exact H
              have Ny153 := Aside0.mk hy153
              clear hy153
              obtain rfl := Option.some.inj H
              have p150 : 0 ≤ (x4_1 : Int) := of_decide_eq_true (by first | (with_reducible assumption) | assumption)
              have q150 : x4_1 < (l0.length : Int) := of_decide_eq_true (by first | (with_reducible assumption) | assumption)
              obtain ⟨ad150, A150_3, c150_3, e150, hx150_0, hx150_1, hx150_2, hx150_3, hl150_3, hi150_3⟩ := at_T62 HR0.out x4_1 p150 q150
              cases e150
              try (replace hx150_0 := (HB.out.cell (World.block_lt_of_cell? w _ hx150_0)).trans hx150_0)
              try (replace hx150_1 := (HB.out.cell (World.block_lt_of_cell? w _ hx150_1)).trans hx150_1)
              try (replace hx150_2 := (HB.out.cell (World.block_lt_of_cell? w _ hx150_2)).trans hx150_2)
              try (replace hx150_3 := (HB.out.cell (World.block_lt_of_cell? w _ hx150_3)).trans hx150_3)
              have HR150_3 := Aside0.mk hi150_3
              have HC150_3 := Aside0.mk hl150_3
              clear hi150_3 hl150_3
              replace p150 := eq_true p150
              replace q150 := eq_true q150
              go_wp2_with (first | ((with_reducible refine gate_dst (N := 5) rfl ?_); refine box_event ?hg (N := 5) ?hd (cs := #[.int .i64 0, .int .i64 0, .int .i64 0, .slice none 0 0]) (t := 62) ?hr ?_; (case hd => rfl); (case hg => rfl); (case hr => first | (go_simp; done) | (go_simp; rfl)); intro gb151 hg w38 hbox hb; have n0_ := Aside0.mk (Kd.RM_below (by (with_reducible repeat (first | apply Kd.RM_alloc | apply Kd.RM_drewN | apply Kd.RM_drew)); exact HO_3.out) hb); have n1_ := Aside0.mk (below_step (by repeat (first | (with_reducible first | exact HB.out | apply below_alloc | apply pw_below_drewN | apply below_drew1) | exact HB.out)) hb); have n2_ := Aside0.mk (hbox); have n3_ := Aside0.mk ((by rw [hg]; exact (below_size (by repeat (first | (with_reducible first | exact HB.out | apply below_alloc | apply pw_below_drewN | apply below_drew1) | exact HB.out))) : w.heap.size ≤ gb151)); have n4_ := Aside0.mk ((by rw [hg]; exact (below_size (by repeat (first | (with_reducible first | exact HB.out | apply below_alloc | apply pw_below_drewN | apply below_drew1) | exact HB.out))) : w.heap.size ≤ gb151)); clear HO_3; clear HB; have HO_3 := n0_; have HB := n1_; have BK151 := n2_; have GW151 := n3_; have GE151 := n4_; clear n0_ n1_ n2_ n3_ n4_; clear hb hbox hg; have hcz39_0 : w38.cell? ⟨gb151, 0, none⟩ = some (.int .i64 0) := (blk_cell BK151.out 0).trans rfl; have hcz39_1 : w38.cell? ⟨gb151, 1, none⟩ = some (.int .i64 0) := (blk_cell BK151.out 1).trans rfl; have hcz39_2 : w38.cell? ⟨gb151, 2, none⟩ = some (.int .i64 0) := (blk_cell BK151.out 2).trans rfl; have hcz39_3 : w38.cell? ⟨gb151, 3, none⟩ = some (.slice none 0 0) := (blk_cell BK151.out 3).trans rfl; have hfz39_0 := blk_frozen BK151.out 0; have hfz39_1 := blk_frozen BK151.out 1; have hfz39_2 := blk_frozen BK151.out 2; have hfz39_3 := blk_frozen BK151.out 3) | ((with_reducible refine gate_callee (f := 50) rfl ?_); refine goesL_ (some 23) rfl rfl Try.func50 (by kernel_rfl) rfl #[.agg #[.int .i64 ((rd_T62 l0 x4_1).f0), .int .i64 ((rd_T62 l0 x4_1).f1), .int .i64 ((rd_T62 l0 x4_1).f2), .slice A150_3 ((rd_T62 l0 x4_1).f3).length c150_3]] rfl (by (try simp only [List.map_toArray, List.map_cons, List.map_nil]); first | done | rfl | (simp only [List.length_drop, List.length_take]; rfl)) ?_; (with_reducible refine (spec_l14StepOk.calls ((rd_T62 l0 x4_1).f0) ((rd_T62 l0 x4_1).f1) ((rd_T62 l0 x4_1).f2) _ _ ((rd_T62 l0 x4_1).f3) false _ ?side1 ?side2 A9.out).mono ?_); (case side1 => exact Kd.C_below HR150_3.out (by repeat (first | (with_reducible first | exact HB.out | apply below_alloc | apply pw_below_drewN | apply below_drew1 | refine below_set ?_ GE151.out) | exact HB.out))); (case side2 => exact HC150_3.out); rintro e w40 ⟨rfl, hb⟩; refine ⟨_, rfl, ?_⟩; have n0_ := Aside0.mk (Kd.RM_below (by (with_reducible repeat (first | apply Kd.RM_alloc | apply Kd.RM_drewN | apply Kd.RM_drew)); exact (Kd.RM_mono (Kd.RM_far (p := ⟨gb151, 3, none⟩) (Kd.RM_far (p := ⟨gb151, 2, none⟩) (Kd.RM_far (p := ⟨gb151, 1, none⟩) (Kd.RM_far (p := ⟨gb151, 0, none⟩) (Kd.RM_types HO_3.out BK151.out (by decide)) (fun _ hk => hk.2) (.int .i64 ((rd_T62 l0 x4_1).f0))) (fun _ hk => hk.2) (.int .i64 ((rd_T62 l0 x4_1).f1))) (fun _ hk => hk.2) (.int .i64 ((rd_T62 l0 x4_1).f2))) (fun _ hk => hk.2) (.slice A150_3 ((rd_T62 l0 x4_1).f3).length c150_3)) (fun _ h_ => h_.1))) hb); have n1_ := Aside0.mk (blk_below (g := gb151) (o := .cells #[.int .i64 ((rd_T62 l0 x4_1).f0), .int .i64 ((rd_T62 l0 x4_1).f1), .int .i64 ((rd_T62 l0 x4_1).f2), .slice A150_3 ((rd_T62 l0 x4_1).f3).length c150_3] 62 (0, 0)) (by (with_reducible repeat (first | refine blk_drewN ?_ _ | refine blk_drew ?_ | refine blk_alloc ?_ _)); refine blk_put (cs := #[.int .i64 ((rd_T62 l0 x4_1).f0), .int .i64 ((rd_T62 l0 x4_1).f1), .int .i64 ((rd_T62 l0 x4_1).f2), .slice none 0 0]) ?_ 3 _ rfl; (with_reducible repeat (first | refine blk_drewN ?_ _ | refine blk_drew ?_ | refine blk_alloc ?_ _)); refine blk_put (cs := #[.int .i64 ((rd_T62 l0 x4_1).f0), .int .i64 ((rd_T62 l0 x4_1).f1), .int .i64 0, .slice none 0 0]) ?_ 2 _ rfl; (with_reducible repeat (first | refine blk_drewN ?_ _ | refine blk_drew ?_ | refine blk_alloc ?_ _)); refine blk_put (cs := #[.int .i64 ((rd_T62 l0 x4_1).f0), .int .i64 0, .int .i64 0, .slice none 0 0]) ?_ 1 _ rfl; (with_reducible repeat (first | refine blk_drewN ?_ _ | refine blk_drew ?_ | refine blk_alloc ?_ _)); refine blk_put (cs := #[.int .i64 0, .int .i64 0, .int .i64 0, .slice none 0 0]) ?_ 0 _ rfl; (with_reducible repeat (first | refine blk_drewN ?_ _ | refine blk_drew ?_ | refine blk_alloc ?_ _)); exact BK151.out) hb); have n2_ := Aside0.mk (below_step (by repeat (first | (with_reducible first | exact HB.out | apply below_alloc | apply pw_below_drewN | apply below_drew1 | refine below_set ?_ GE151.out) | exact HB.out)) hb); clear HO_3; clear BK151; clear HB; have HO_3 := n0_; have BK151 := n1_; have HB := n2_; clear n0_ n1_ n2_; (try clear hb); (try clear hb2); (try clear hk); (try clear hi)) | ((with_reducible refine gate_dst (N := 25) rfl ?_); refine Kd.R_lit (Kd.int .u8) _ 5 ?hg (N := 25) ?hd (xs := ([] : List Int)) (inner := []) (ok := fun _ => True) (okp := fun _ => True) ?hr ?hp (fun _ hk => hk) trivial (Below.refl _ _) (Nat.le_refl _) (by simp) ?_; (case hd => rfl); (case hg => rfl); (case hr => first | (go_simp; done) | (go_simp; rfl)); (case hp => exact (Reps.none _ _)); intro v154 w41 ho42 hb hg_ hnew_; clear hg_ hnew_; (first | rw [← Ny153.out] at ho42 | (simp only [Int.reduceToNat] at ho42; rw [← Ny153.out] at ho42)); have n0_ := Aside0.mk (Kd.RM_elder' (by (with_reducible repeat (first | apply Kd.RM_alloc | apply Kd.RM_drewN | apply Kd.RM_drew)); exact HO_3.out) (Kd.R_base ho42) hb); have n1_ := Aside0.mk (Kd.R_lower (Kd.R_new' ho42 (Kd.RM_lt (by (with_reducible repeat (first | apply Kd.RM_alloc | apply Kd.RM_drewN | apply Kd.RM_drew)); exact HO_3.out))) (below_size (by repeat (first | (with_reducible first | exact HB.out | apply below_alloc | apply pw_below_drewN | apply below_drew1 | refine below_set ?_ GE151.out) | exact HB.out)))); have n2_ := Aside0.mk (blk_below (g := gb151) (o := .cells #[.int .i64 ((rd_T62 l0 x4_1).f0), .int .i64 ((rd_T62 l0 x4_1).f1), .int .i64 ((rd_T62 l0 x4_1).f2), .slice A150_3 ((rd_T62 l0 x4_1).f3).length c150_3] 62 (0, 0)) (by (with_reducible repeat (first | refine blk_drewN ?_ _ | refine blk_drew ?_ | refine blk_alloc ?_ _)); exact BK151.out) hb); have n3_ := Aside0.mk (below_step (by repeat (first | (with_reducible first | exact HB.out | apply below_alloc | apply pw_below_drewN | apply below_drew1 | refine below_set ?_ GE151.out) | exact HB.out)) hb); clear HO_3; clear BK151; clear HB; have HO_3 := n0_; have HO155 := n1_; have BK151 := n2_; have HB := n3_; clear n0_ n1_ n2_ n3_; clear hb ho42))
              go_ret
              exact ⟨_, by first | rfl | (simp [errW_none, errW_some] <;> rfl) | (simp [*, errW_none, errW_some] <;> rfl), Kd.RM_of (by (with_reducible repeat (first | apply Kd.R_alloc | apply Kd.R_drewN | apply Kd.R_drew)); exact Kd.R_mono HO155.out (fun _ hk => trivial)), by repeat (first | (with_reducible first | exact HB.out | apply below_alloc | apply pw_below_drewN | apply below_drew1 | refine below_set ?_ GE151.out) | exact HB.out)⟩
          · rw [if_neg c8] at H
            exact absurd H (by simp)
        · rw [if_neg c7] at H
          have c7b0 : decide (x4_1 < (l0.length : Int)) = false := decide_eq_false c7
          clear c7
          obtain rfl := Option.some.inj H
          go_wp2
          go_ret
          exact ⟨_, by first | rfl | (simp [errW_none, errW_some] <;> rfl) | (simp [*, errW_none, errW_some] <;> rfl), by (with_reducible repeat (first | apply Kd.RM_alloc | apply Kd.RM_drewN | apply Kd.RM_drew)); exact HO_3.out, by repeat (first | (with_reducible first | exact HB.out | apply below_alloc | apply pw_below_drewN | apply below_drew1) | exact HB.out)⟩
theorem spec_DeltaBytes.calls (k : Nat) (A0 : Option Addr) (c0 : Nat) (l0 : List (S62)) (r : List Int) (w : World) (hr0 : Kd.C k62 w A0 l0.length l0) (hc0 : l0.length ≤ c0) (h : spec_DeltaBytes.f k l0 = some r) :
    Calls Try.prog 29 #[.slice A0 l0.length c0] w fun e w' => ∃ v0_ : Value, e = .returned (v0_) ∧ Kd.V (Kd.int .u8) 5 w' w.heap.size (fun k_ => (w.heap.size ≤ k_)) v0_ r ∧ Below w.heap.size w w' := (spec_DeltaBytes.callsM k A0 c0 l0 r w hr0 hc0 h).mono (fun e w' ⟨v0_, h1, h2, h3⟩ => ⟨v0_, h1, Kd.RM_V h2, h3⟩)


/-! ### impl_stepOk: function 52 -/
def impl_stepOk.f (a0_0 : Int) (a0_1 : Int) (a0_2 : Int) (l0_3 : List Int) : Option (Bool) := if a0_0 = 1 then (if a0_2 ≥ 1 then (if (l0_3.length : Int) = 0 then (some true) else (if a0_0 = 2 then (if (l0_3.length : Int) ≥ 1 then (if a0_1 = 0 then (some (a0_2 == 0)) else (some false)) else (some false)) else (some false))) else (if a0_0 = 2 then (if (l0_3.length : Int) ≥ 1 then (if a0_1 = 0 then (some (a0_2 == 0)) else (some false)) else (some false)) else (some false))) else (if a0_0 = 2 then (if (l0_3.length : Int) ≥ 1 then (if a0_1 = 0 then (some (a0_2 == 0)) else (some false)) else (some false)) else (some false))
set_option maxHeartbeats 8000000 in
set_option maxRecDepth 100000 in
theorem impl_stepOk.calls (a0_0 : Int) (a0_1 : Int) (a0_2 : Int) (A0_3 : Option Addr) (c0_3 : Nat) (l0_3 : List Int) (r : Bool) (w : World) (hr0_3 : Kd.C (Kd.int .u8) w A0_3 l0_3.length l0_3) (hc0_3 : l0_3.length ≤ c0_3) (h : impl_stepOk.f a0_0 a0_1 a0_2 l0_3 = some r) :
    Calls Try.prog 52 #[.agg #[.int .i64 a0_0, .int .i64 a0_1, .int .i64 a0_2, .slice A0_3 l0_3.length c0_3]] w fun e w' => e = .returned (.bool r) ∧ Below w.heap.size w w' := by
  have hu62 := Try.underlying62
  have HR0_3 := Aside0.mk hr0_3
  have HC0_3 := Aside0.mk hc0_3
  clear hr0_3 hc0_3
  have HB := Aside0.mk (Below.refl w.heap.size w)
  have H : (if a0_0 = 1 then (if a0_2 ≥ 1 then (if (l0_3.length : Int) = 0 then (some true) else (if a0_0 = 2 then (if (l0_3.length : Int) ≥ 1 then (if a0_1 = 0 then (some (a0_2 == 0)) else (some false)) else (some false)) else (some false))) else (if a0_0 = 2 then (if (l0_3.length : Int) ≥ 1 then (if a0_1 = 0 then (some (a0_2 == 0)) else (some false)) else (some false)) else (some false))) else (if a0_0 = 2 then (if (l0_3.length : Int) ≥ 1 then (if a0_1 = 0 then (some (a0_2 == 0)) else (some false)) else (some false)) else (some false))) = some r := h
  clear h
  by_cases c2 : a0_0 = 1
  · rw [if_pos c2] at H
    have c2b0 : (a0_0 == 1) = true := beq_iff_eq.mpr c2
    have c2b1 : (a0_0 != 1) = false := bne_eq_false_iff_eq.mpr c2
    clear c2
    by_cases c3 : a0_2 ≥ 1
    · rw [if_pos c3] at H
      have c3b0 : decide (1 ≤ a0_2) = true := decide_eq_true c3
      clear c3
      by_cases c4 : (l0_3.length : Int) = 0
      · rw [if_pos c4] at H
        have c4b0 : ((l0_3.length : Int) == 0) = true := beq_iff_eq.mpr c4
        have c4b1 : ((l0_3.length : Int) != 0) = false := bne_eq_false_iff_eq.mpr c4
        clear c4
        obtain rfl := Option.some.inj H
        go_enter Try.func52, Try.ntmps52
        go_wp2_with (first | ((with_reducible refine gate_dst (N := 1) rfl ?_); (try (refine gate_guard (by rfl) ?_; dsimp only)); refine box_event ?hg (N := 1) ?hd (cs := #[.int .i64 a0_0, .int .i64 a0_1, .int .i64 a0_2, .slice A0_3 l0_3.length c0_3]) (t := 62) ?hr ?_; (case hd => rfl); (case hg => rfl); (case hr => first | (go_simp; done) | (go_simp; rfl)); intro gb171 hg w5 hbox hb; have n0_ := Aside0.mk (below_step (by repeat (first | (with_reducible first | exact HB.out | apply below_alloc | apply pw_below_drewN | apply below_drew1) | exact HB.out)) hb); have n1_ := Aside0.mk (hbox); have n2_ := Aside0.mk ((by rw [hg]; exact (below_size (by repeat (first | (with_reducible first | exact HB.out | apply below_alloc | apply pw_below_drewN | apply below_drew1) | exact HB.out))) : w.heap.size ≤ gb171)); have n3_ := Aside0.mk ((by rw [hg]; exact (below_size (by repeat (first | (with_reducible first | exact HB.out | apply below_alloc | apply pw_below_drewN | apply below_drew1) | exact HB.out))) : w.heap.size ≤ gb171)); clear HB; have HB := n0_; have BK171 := n1_; have GW171 := n2_; have GE171 := n3_; clear n0_ n1_ n2_ n3_; clear hb hbox hg; have hcz6_0 : w5.cell? ⟨gb171, 0, none⟩ = some (.int .i64 a0_0) := (blk_cell BK171.out 0).trans rfl; have hcz6_1 : w5.cell? ⟨gb171, 1, none⟩ = some (.int .i64 a0_1) := (blk_cell BK171.out 1).trans rfl; have hcz6_2 : w5.cell? ⟨gb171, 2, none⟩ = some (.int .i64 a0_2) := (blk_cell BK171.out 2).trans rfl; have hcz6_3 : w5.cell? ⟨gb171, 3, none⟩ = some (.slice A0_3 l0_3.length c0_3) := (blk_cell BK171.out 3).trans rfl; have hfz6_0 := blk_frozen BK171.out 0; have hfz6_1 := blk_frozen BK171.out 1; have hfz6_2 := blk_frozen BK171.out 2; have hfz6_3 := blk_frozen BK171.out 3))
        go_ret
        exact ⟨by first | rfl | (simp [errW_none, errW_some] <;> rfl) | (simp [*, errW_none, errW_some] <;> rfl), by repeat (first | (with_reducible first | exact HB.out | apply below_alloc | apply pw_below_drewN | apply below_drew1 | refine below_set ?_ GE171.out) | exact HB.out)⟩
      · rw [if_neg c4] at H
        have c4b0 : ((l0_3.length : Int) == 0) = false := beq_eq_false_iff_ne.mpr c4
        have c4b1 : ((l0_3.length : Int) != 0) = true := bne_iff_ne.mpr c4
        have c4b2 : ¬ (l0_3 = []) := fun h_ => c4 (by rw [h_]; rfl)
        by_cases c7 : a0_0 = 2
        · rw [if_pos c7] at H
          have c7b0 : (a0_0 == 2) = true := beq_iff_eq.mpr c7
          have c7b1 : (a0_0 != 2) = false := bne_eq_false_iff_eq.mpr c7
          clear c7
          by_cases c8 : (l0_3.length : Int) ≥ 1
          · rw [if_pos c8] at H
            have c8b0 : decide (1 ≤ (l0_3.length : Int)) = true := decide_eq_true c8
            have c8b1 : decide (1 ≤ l0_3.length) = true := decide_eq_true (by omega)
            clear c8
            by_cases c9 : a0_1 = 0
            · rw [if_pos c9] at H
              have c9b0 : (a0_1 == 0) = true := beq_iff_eq.mpr c9
              have c9b1 : (a0_1 != 0) = false := bne_eq_false_iff_eq.mpr c9
              clear c9
              obtain rfl := Option.some.inj H
              go_enter Try.func52, Try.ntmps52
              go_wp2_with (first | ((with_reducible refine gate_dst (N := 1) rfl ?_); (try (refine gate_guard (by rfl) ?_; dsimp only)); refine box_event ?hg (N := 1) ?hd (cs := #[.int .i64 a0_0, .int .i64 a0_1, .int .i64 a0_2, .slice A0_3 l0_3.length c0_3]) (t := 62) ?hr ?_; (case hd => rfl); (case hg => rfl); (case hr => first | (go_simp; done) | (go_simp; rfl)); intro gb171 hg w10 hbox hb; have n0_ := Aside0.mk (below_step (by repeat (first | (with_reducible first | exact HB.out | apply below_alloc | apply pw_below_drewN | apply below_drew1) | exact HB.out)) hb); have n1_ := Aside0.mk (hbox); have n2_ := Aside0.mk ((by rw [hg]; exact (below_size (by repeat (first | (with_reducible first | exact HB.out | apply below_alloc | apply pw_below_drewN | apply below_drew1) | exact HB.out))) : w.heap.size ≤ gb171)); have n3_ := Aside0.mk ((by rw [hg]; exact (below_size (by repeat (first | (with_reducible first | exact HB.out | apply below_alloc | apply pw_below_drewN | apply below_drew1) | exact HB.out))) : w.heap.size ≤ gb171)); clear HB; have HB := n0_; have BK171 := n1_; have GW171 := n2_; have GE171 := n3_; clear n0_ n1_ n2_ n3_; clear hb hbox hg; have hcz11_0 : w10.cell? ⟨gb171, 0, none⟩ = some (.int .i64 a0_0) := (blk_cell BK171.out 0).trans rfl; have hcz11_1 : w10.cell? ⟨gb171, 1, none⟩ = some (.int .i64 a0_1) := (blk_cell BK171.out 1).trans rfl; have hcz11_2 : w10.cell? ⟨gb171, 2, none⟩ = some (.int .i64 a0_2) := (blk_cell BK171.out 2).trans rfl; have hcz11_3 : w10.cell? ⟨gb171, 3, none⟩ = some (.slice A0_3 l0_3.length c0_3) := (blk_cell BK171.out 3).trans rfl; have hfz11_0 := blk_frozen BK171.out 0; have hfz11_1 := blk_frozen BK171.out 1; have hfz11_2 := blk_frozen BK171.out 2; have hfz11_3 := blk_frozen BK171.out 3))
              go_ret
              exact ⟨by first | rfl | (simp [errW_none, errW_some] <;> rfl) | (simp [*, errW_none, errW_some] <;> rfl), by repeat (first | (with_reducible first | exact HB.out | apply below_alloc | apply pw_below_drewN | apply below_drew1 | refine below_set ?_ GE171.out) | exact HB.out)⟩
            · rw [if_neg c9] at H
              have c9b0 : (a0_1 == 0) = false := beq_eq_false_iff_ne.mpr c9
              have c9b1 : (a0_1 != 0) = true := bne_iff_ne.mpr c9
              obtain rfl := Option.some.inj H
              go_enter Try.func52, Try.ntmps52
              go_wp2_with (first | ((with_reducible refine gate_dst (N := 1) rfl ?_); (try (refine gate_guard (by rfl) ?_; dsimp only)); refine box_event ?hg (N := 1) ?hd (cs := #[.int .i64 a0_0, .int .i64 a0_1, .int .i64 a0_2, .slice A0_3 l0_3.length c0_3]) (t := 62) ?hr ?_; (case hd => rfl); (case hg => rfl); (case hr => first | (go_simp; done) | (go_simp; rfl)); intro gb171 hg w12 hbox hb; have n0_ := Aside0.mk (below_step (by repeat (first | (with_reducible first | exact HB.out | apply below_alloc | apply pw_below_drewN | apply below_drew1) | exact HB.out)) hb); have n1_ := Aside0.mk (hbox); have n2_ := Aside0.mk ((by rw [hg]; exact (below_size (by repeat (first | (with_reducible first | exact HB.out | apply below_alloc | apply pw_below_drewN | apply below_drew1) | exact HB.out))) : w.heap.size ≤ gb171)); have n3_ := Aside0.mk ((by rw [hg]; exact (below_size (by repeat (first | (with_reducible first | exact HB.out | apply below_alloc | apply pw_below_drewN | apply below_drew1) | exact HB.out))) : w.heap.size ≤ gb171)); clear HB; have HB := n0_; have BK171 := n1_; have GW171 := n2_; have GE171 := n3_; clear n0_ n1_ n2_ n3_; clear hb hbox hg; have hcz13_0 : w12.cell? ⟨gb171, 0, none⟩ = some (.int .i64 a0_0) := (blk_cell BK171.out 0).trans rfl; have hcz13_1 : w12.cell? ⟨gb171, 1, none⟩ = some (.int .i64 a0_1) := (blk_cell BK171.out 1).trans rfl; have hcz13_2 : w12.cell? ⟨gb171, 2, none⟩ = some (.int .i64 a0_2) := (blk_cell BK171.out 2).trans rfl; have hcz13_3 : w12.cell? ⟨gb171, 3, none⟩ = some (.slice A0_3 l0_3.length c0_3) := (blk_cell BK171.out 3).trans rfl; have hfz13_0 := blk_frozen BK171.out 0; have hfz13_1 := blk_frozen BK171.out 1; have hfz13_2 := blk_frozen BK171.out 2; have hfz13_3 := blk_frozen BK171.out 3))
              go_ret
              exact ⟨by first | rfl | (simp [errW_none, errW_some] <;> rfl) | (simp [*, errW_none, errW_some] <;> rfl), by repeat (first | (with_reducible first | exact HB.out | apply below_alloc | apply pw_below_drewN | apply below_drew1 | refine below_set ?_ GE171.out) | exact HB.out)⟩
          · rw [if_neg c8] at H
            have c8b0 : decide (1 ≤ (l0_3.length : Int)) = false := decide_eq_false c8
            have c8b1 : decide (1 ≤ l0_3.length) = false := decide_eq_false (by omega)
            clear c8
            obtain rfl := Option.some.inj H
            go_enter Try.func52, Try.ntmps52
            go_wp2_with (first | ((with_reducible refine gate_dst (N := 1) rfl ?_); (try (refine gate_guard (by rfl) ?_; dsimp only)); refine box_event ?hg (N := 1) ?hd (cs := #[.int .i64 a0_0, .int .i64 a0_1, .int .i64 a0_2, .slice A0_3 l0_3.length c0_3]) (t := 62) ?hr ?_; (case hd => rfl); (case hg => rfl); (case hr => first | (go_simp; done) | (go_simp; rfl)); intro gb171 hg w14 hbox hb; have n0_ := Aside0.mk (below_step (by repeat (first | (with_reducible first | exact HB.out | apply below_alloc | apply pw_below_drewN | apply below_drew1) | exact HB.out)) hb); have n1_ := Aside0.mk (hbox); have n2_ := Aside0.mk ((by rw [hg]; exact (below_size (by repeat (first | (with_reducible first | exact HB.out | apply below_alloc | apply pw_below_drewN | apply below_drew1) | exact HB.out))) : w.heap.size ≤ gb171)); have n3_ := Aside0.mk ((by rw [hg]; exact (below_size (by repeat (first | (with_reducible first | exact HB.out | apply below_alloc | apply pw_below_drewN | apply below_drew1) | exact HB.out))) : w.heap.size ≤ gb171)); clear HB; have HB := n0_; have BK171 := n1_; have GW171 := n2_; have GE171 := n3_; clear n0_ n1_ n2_ n3_; clear hb hbox hg; have hcz15_0 : w14.cell? ⟨gb171, 0, none⟩ = some (.int .i64 a0_0) := (blk_cell BK171.out 0).trans rfl; have hcz15_1 : w14.cell? ⟨gb171, 1, none⟩ = some (.int .i64 a0_1) := (blk_cell BK171.out 1).trans rfl; have hcz15_2 : w14.cell? ⟨gb171, 2, none⟩ = some (.int .i64 a0_2) := (blk_cell BK171.out 2).trans rfl; have hcz15_3 : w14.cell? ⟨gb171, 3, none⟩ = some (.slice A0_3 l0_3.length c0_3) := (blk_cell BK171.out 3).trans rfl; have hfz15_0 := blk_frozen BK171.out 0; have hfz15_1 := blk_frozen BK171.out 1; have hfz15_2 := blk_frozen BK171.out 2; have hfz15_3 := blk_frozen BK171.out 3))
            go_ret
            exact ⟨by first | rfl | (simp [errW_none, errW_some] <;> rfl) | (simp [*, errW_none, errW_some] <;> rfl), by repeat (first | (with_reducible first | exact HB.out | apply below_alloc | apply pw_below_drewN | apply below_drew1 | refine below_set ?_ GE171.out) | exact HB.out)⟩
        · rw [if_neg c7] at H
          have c7b0 : (a0_0 == 2) = false := beq_eq_false_iff_ne.mpr c7
          have c7b1 : (a0_0 != 2) = true := bne_iff_ne.mpr c7
          obtain rfl := Option.some.inj H
          go_enter Try.func52, Try.ntmps52
          go_wp2_with (first | ((with_reducible refine gate_dst (N := 1) rfl ?_); (try (refine gate_guard (by rfl) ?_; dsimp only)); refine box_event ?hg (N := 1) ?hd (cs := #[.int .i64 a0_0, .int .i64 a0_1, .int .i64 a0_2, .slice A0_3 l0_3.length c0_3]) (t := 62) ?hr ?_; (case hd => rfl); (case hg => rfl); (case hr => first | (go_simp; done) | (go_simp; rfl)); intro gb171 hg w16 hbox hb; have n0_ := Aside0.mk (below_step (by repeat (first | (with_reducible first | exact HB.out | apply below_alloc | apply pw_below_drewN | apply below_drew1) | exact HB.out)) hb); have n1_ := Aside0.mk (hbox); have n2_ := Aside0.mk ((by rw [hg]; exact (below_size (by repeat (first | (with_reducible first | exact HB.out | apply below_alloc | apply pw_below_drewN | apply below_drew1) | exact HB.out))) : w.heap.size ≤ gb171)); have n3_ := Aside0.mk ((by rw [hg]; exact (below_size (by repeat (first | (with_reducible first | exact HB.out | apply below_alloc | apply pw_below_drewN | apply below_drew1) | exact HB.out))) : w.heap.size ≤ gb171)); clear HB; have HB := n0_; have BK171 := n1_; have GW171 := n2_; have GE171 := n3_; clear n0_ n1_ n2_ n3_; clear hb hbox hg; have hcz17_0 : w16.cell? ⟨gb171, 0, none⟩ = some (.int .i64 a0_0) := (blk_cell BK171.out 0).trans rfl; have hcz17_1 : w16.cell? ⟨gb171, 1, none⟩ = some (.int .i64 a0_1) := (blk_cell BK171.out 1).trans rfl; have hcz17_2 : w16.cell? ⟨gb171, 2, none⟩ = some (.int .i64 a0_2) := (blk_cell BK171.out 2).trans rfl; have hcz17_3 : w16.cell? ⟨gb171, 3, none⟩ = some (.slice A0_3 l0_3.length c0_3) := (blk_cell BK171.out 3).trans rfl; have hfz17_0 := blk_frozen BK171.out 0; have hfz17_1 := blk_frozen BK171.out 1; have hfz17_2 := blk_frozen BK171.out 2; have hfz17_3 := blk_frozen BK171.out 3))
          go_ret
          exact ⟨by first | rfl | (simp [errW_none, errW_some] <;> rfl) | (simp [*, errW_none, errW_some] <;> rfl), by repeat (first | (with_reducible first | exact HB.out | apply below_alloc | apply pw_below_drewN | apply below_drew1 | refine below_set ?_ GE171.out) | exact HB.out)⟩
    · rw [if_neg c3] at H
      have c3b0 : decide (1 ≤ a0_2) = false := decide_eq_false c3
      clear c3
      by_cases c18 : a0_0 = 2
      · rw [if_pos c18] at H
        have c18b0 : (a0_0 == 2) = true := beq_iff_eq.mpr c18
        have c18b1 : (a0_0 != 2) = false := bne_eq_false_iff_eq.mpr c18
        clear c18
        by_cases c19 : (l0_3.length : Int) ≥ 1
        · rw [if_pos c19] at H
          have c19b0 : decide (1 ≤ (l0_3.length : Int)) = true := decide_eq_true c19
          have c19b1 : decide (1 ≤ l0_3.length) = true := decide_eq_true (by omega)
          clear c19
          by_cases c20 : a0_1 = 0
          · rw [if_pos c20] at H
            have c20b0 : (a0_1 == 0) = true := beq_iff_eq.mpr c20
            have c20b1 : (a0_1 != 0) = false := bne_eq_false_iff_eq.mpr c20
            clear c20
            obtain rfl := Option.some.inj H
            go_enter Try.func52, Try.ntmps52
            go_wp2_with (first | ((with_reducible refine gate_dst (N := 1) rfl ?_); (try (refine gate_guard (by rfl) ?_; dsimp only)); refine box_event ?hg (N := 1) ?hd (cs := #[.int .i64 a0_0, .int .i64 a0_1, .int .i64 a0_2, .slice A0_3 l0_3.length c0_3]) (t := 62) ?hr ?_; (case hd => rfl); (case hg => rfl); (case hr => first | (go_simp; done) | (go_simp; rfl)); intro gb171 hg w21 hbox hb; have n0_ := Aside0.mk (below_step (by repeat (first | (with_reducible first | exact HB.out | apply below_alloc | apply pw_below_drewN | apply below_drew1) | exact HB.out)) hb); have n1_ := Aside0.mk (hbox); have n2_ := Aside0.mk ((by rw [hg]; exact (below_size (by repeat (first | (with_reducible first | exact HB.out | apply below_alloc | apply pw_below_drewN | apply below_drew1) | exact HB.out))) : w.heap.size ≤ gb171)); have n3_ := Aside0.mk ((by rw [hg]; exact (below_size (by repeat (first | (with_reducible first | exact HB.out | apply below_alloc | apply pw_below_drewN | apply below_drew1) | exact HB.out))) : w.heap.size ≤ gb171)); clear HB; have HB := n0_; have BK171 := n1_; have GW171 := n2_; have GE171 := n3_; clear n0_ n1_ n2_ n3_; clear hb hbox hg; have hcz22_0 : w21.cell? ⟨gb171, 0, none⟩ = some (.int .i64 a0_0) := (blk_cell BK171.out 0).trans rfl; have hcz22_1 : w21.cell? ⟨gb171, 1, none⟩ = some (.int .i64 a0_1) := (blk_cell BK171.out 1).trans rfl; have hcz22_2 : w21.cell? ⟨gb171, 2, none⟩ = some (.int .i64 a0_2) := (blk_cell BK171.out 2).trans rfl; have hcz22_3 : w21.cell? ⟨gb171, 3, none⟩ = some (.slice A0_3 l0_3.length c0_3) := (blk_cell BK171.out 3).trans rfl; have hfz22_0 := blk_frozen BK171.out 0; have hfz22_1 := blk_frozen BK171.out 1; have hfz22_2 := blk_frozen BK171.out 2; have hfz22_3 := blk_frozen BK171.out 3))
            go_ret
            exact ⟨by first | rfl | (simp [errW_none, errW_some] <;> rfl) | (simp [*, errW_none, errW_some] <;> rfl), by repeat (first | (with_reducible first | exact HB.out | apply below_alloc | apply pw_below_drewN | apply below_drew1 | refine below_set ?_ GE171.out) | exact HB.out)⟩
          · rw [if_neg c20] at H
            have c20b0 : (a0_1 == 0) = false := beq_eq_false_iff_ne.mpr c20
            have c20b1 : (a0_1 != 0) = true := bne_iff_ne.mpr c20
            obtain rfl := Option.some.inj H
            go_enter Try.func52, Try.ntmps52
            go_wp2_with (first | ((with_reducible refine gate_dst (N := 1) rfl ?_); (try (refine gate_guard (by rfl) ?_; dsimp only)); refine box_event ?hg (N := 1) ?hd (cs := #[.int .i64 a0_0, .int .i64 a0_1, .int .i64 a0_2, .slice A0_3 l0_3.length c0_3]) (t := 62) ?hr ?_; (case hd => rfl); (case hg => rfl); (case hr => first | (go_simp; done) | (go_simp; rfl)); intro gb171 hg w23 hbox hb; have n0_ := Aside0.mk (below_step (by repeat (first | (with_reducible first | exact HB.out | apply below_alloc | apply pw_below_drewN | apply below_drew1) | exact HB.out)) hb); have n1_ := Aside0.mk (hbox); have n2_ := Aside0.mk ((by rw [hg]; exact (below_size (by repeat (first | (with_reducible first | exact HB.out | apply below_alloc | apply pw_below_drewN | apply below_drew1) | exact HB.out))) : w.heap.size ≤ gb171)); have n3_ := Aside0.mk ((by rw [hg]; exact (below_size (by repeat (first | (with_reducible first | exact HB.out | apply below_alloc | apply pw_below_drewN | apply below_drew1) | exact HB.out))) : w.heap.size ≤ gb171)); clear HB; have HB := n0_; have BK171 := n1_; have GW171 := n2_; have GE171 := n3_; clear n0_ n1_ n2_ n3_; clear hb hbox hg; have hcz24_0 : w23.cell? ⟨gb171, 0, none⟩ = some (.int .i64 a0_0) := (blk_cell BK171.out 0).trans rfl; have hcz24_1 : w23.cell? ⟨gb171, 1, none⟩ = some (.int .i64 a0_1) := (blk_cell BK171.out 1).trans rfl; have hcz24_2 : w23.cell? ⟨gb171, 2, none⟩ = some (.int .i64 a0_2) := (blk_cell BK171.out 2).trans rfl; have hcz24_3 : w23.cell? ⟨gb171, 3, none⟩ = some (.slice A0_3 l0_3.length c0_3) := (blk_cell BK171.out 3).trans rfl; have hfz24_0 := blk_frozen BK171.out 0; have hfz24_1 := blk_frozen BK171.out 1; have hfz24_2 := blk_frozen BK171.out 2; have hfz24_3 := blk_frozen BK171.out 3))
            go_ret
            exact ⟨by first | rfl | (simp [errW_none, errW_some] <;> rfl) | (simp [*, errW_none, errW_some] <;> rfl), by repeat (first | (with_reducible first | exact HB.out | apply below_alloc | apply pw_below_drewN | apply below_drew1 | refine below_set ?_ GE171.out) | exact HB.out)⟩
        · rw [if_neg c19] at H
          have c19b0 : decide (1 ≤ (l0_3.length : Int)) = false := decide_eq_false c19
          have c19b1 : decide (1 ≤ l0_3.length) = false := decide_eq_false (by omega)
          clear c19
          obtain rfl := Option.some.inj H
          go_enter Try.func52, Try.ntmps52
          go_wp2_with (first | ((with_reducible refine gate_dst (N := 1) rfl ?_); (try (refine gate_guard (by rfl) ?_; dsimp only)); refine box_event ?hg (N := 1) ?hd (cs := #[.int .i64 a0_0, .int .i64 a0_1, .int .i64 a0_2, .slice A0_3 l0_3.length c0_3]) (t := 62) ?hr ?_; (case hd => rfl); (case hg => rfl); (case hr => first | (go_simp; done) | (go_simp; rfl)); intro gb171 hg w25 hbox hb; have n0_ := Aside0.mk (below_step (by repeat (first | (with_reducible first | exact HB.out | apply below_alloc | apply pw_below_drewN | apply below_drew1) | exact HB.out)) hb); have n1_ := Aside0.mk (hbox); have n2_ := Aside0.mk ((by rw [hg]; exact (below_size (by repeat (first | (with_reducible first | exact HB.out | apply below_alloc | apply pw_below_drewN | apply below_drew1) | exact HB.out))) : w.heap.size ≤ gb171)); have n3_ := Aside0.mk ((by rw [hg]; exact (below_size (by repeat (first | (with_reducible first | exact HB.out | apply below_alloc | apply pw_below_drewN | apply below_drew1) | exact HB.out))) : w.heap.size ≤ gb171)); clear HB; have HB := n0_; have BK171 := n1_; have GW171 := n2_; have GE171 := n3_; clear n0_ n1_ n2_ n3_; clear hb hbox hg; have hcz26_0 : w25.cell? ⟨gb171, 0, none⟩ = some (.int .i64 a0_0) := (blk_cell BK171.out 0).trans rfl; have hcz26_1 : w25.cell? ⟨gb171, 1, none⟩ = some (.int .i64 a0_1) := (blk_cell BK171.out 1).trans rfl; have hcz26_2 : w25.cell? ⟨gb171, 2, none⟩ = some (.int .i64 a0_2) := (blk_cell BK171.out 2).trans rfl; have hcz26_3 : w25.cell? ⟨gb171, 3, none⟩ = some (.slice A0_3 l0_3.length c0_3) := (blk_cell BK171.out 3).trans rfl; have hfz26_0 := blk_frozen BK171.out 0; have hfz26_1 := blk_frozen BK171.out 1; have hfz26_2 := blk_frozen BK171.out 2; have hfz26_3 := blk_frozen BK171.out 3))
          go_ret
          exact ⟨by first | rfl | (simp [errW_none, errW_some] <;> rfl) | (simp [*, errW_none, errW_some] <;> rfl), by repeat (first | (with_reducible first | exact HB.out | apply below_alloc | apply pw_below_drewN | apply below_drew1 | refine below_set ?_ GE171.out) | exact HB.out)⟩
      · rw [if_neg c18] at H
        have c18b0 : (a0_0 == 2) = false := beq_eq_false_iff_ne.mpr c18
        have c18b1 : (a0_0 != 2) = true := bne_iff_ne.mpr c18
        obtain rfl := Option.some.inj H
        go_enter Try.func52, Try.ntmps52
        go_wp2_with (first | ((with_reducible refine gate_dst (N := 1) rfl ?_); (try (refine gate_guard (by rfl) ?_; dsimp only)); refine box_event ?hg (N := 1) ?hd (cs := #[.int .i64 a0_0, .int .i64 a0_1, .int .i64 a0_2, .slice A0_3 l0_3.length c0_3]) (t := 62) ?hr ?_; (case hd => rfl); (case hg => rfl); (case hr => first | (go_simp; done) | (go_simp; rfl)); intro gb171 hg w27 hbox hb; have n0_ := Aside0.mk (below_step (by repeat (first | (with_reducible first | exact HB.out | apply below_alloc | apply pw_below_drewN | apply below_drew1) | exact HB.out)) hb); have n1_ := Aside0.mk (hbox); have n2_ := Aside0.mk ((by rw [hg]; exact (below_size (by repeat (first | (with_reducible first | exact HB.out | apply below_alloc | apply pw_below_drewN | apply below_drew1) | exact HB.out))) : w.heap.size ≤ gb171)); have n3_ := Aside0.mk ((by rw [hg]; exact (below_size (by repeat (first | (with_reducible first | exact HB.out | apply below_alloc | apply pw_below_drewN | apply below_drew1) | exact HB.out))) : w.heap.size ≤ gb171)); clear HB; have HB := n0_; have BK171 := n1_; have GW171 := n2_; have GE171 := n3_; clear n0_ n1_ n2_ n3_; clear hb hbox hg; have hcz28_0 : w27.cell? ⟨gb171, 0, none⟩ = some (.int .i64 a0_0) := (blk_cell BK171.out 0).trans rfl; have hcz28_1 : w27.cell? ⟨gb171, 1, none⟩ = some (.int .i64 a0_1) := (blk_cell BK171.out 1).trans rfl; have hcz28_2 : w27.cell? ⟨gb171, 2, none⟩ = some (.int .i64 a0_2) := (blk_cell BK171.out 2).trans rfl; have hcz28_3 : w27.cell? ⟨gb171, 3, none⟩ = some (.slice A0_3 l0_3.length c0_3) := (blk_cell BK171.out 3).trans rfl; have hfz28_0 := blk_frozen BK171.out 0; have hfz28_1 := blk_frozen BK171.out 1; have hfz28_2 := blk_frozen BK171.out 2; have hfz28_3 := blk_frozen BK171.out 3))
        go_ret
        exact ⟨by first | rfl | (simp [errW_none, errW_some] <;> rfl) | (simp [*, errW_none, errW_some] <;> rfl), by repeat (first | (with_reducible first | exact HB.out | apply below_alloc | apply pw_below_drewN | apply below_drew1 | refine below_set ?_ GE171.out) | exact HB.out)⟩
  · rw [if_neg c2] at H
    have c2b0 : (a0_0 == 1) = false := beq_eq_false_iff_ne.mpr c2
    have c2b1 : (a0_0 != 1) = true := bne_iff_ne.mpr c2
    by_cases c29 : a0_0 = 2
    · rw [if_pos c29] at H
      have c29b0 : (a0_0 == 2) = true := beq_iff_eq.mpr c29
      have c29b1 : (a0_0 != 2) = false := bne_eq_false_iff_eq.mpr c29
      clear c29
      by_cases c30 : (l0_3.length : Int) ≥ 1
      · rw [if_pos c30] at H
        have c30b0 : decide (1 ≤ (l0_3.length : Int)) = true := decide_eq_true c30
        have c30b1 : decide (1 ≤ l0_3.length) = true := decide_eq_true (by omega)
        clear c30
        by_cases c31 : a0_1 = 0
        · rw [if_pos c31] at H
          have c31b0 : (a0_1 == 0) = true := beq_iff_eq.mpr c31
          have c31b1 : (a0_1 != 0) = false := bne_eq_false_iff_eq.mpr c31
          clear c31
          obtain rfl := Option.some.inj H
          go_enter Try.func52, Try.ntmps52
          go_wp2_with (first | ((with_reducible refine gate_dst (N := 1) rfl ?_); (try (refine gate_guard (by rfl) ?_; dsimp only)); refine box_event ?hg (N := 1) ?hd (cs := #[.int .i64 a0_0, .int .i64 a0_1, .int .i64 a0_2, .slice A0_3 l0_3.length c0_3]) (t := 62) ?hr ?_; (case hd => rfl); (case hg => rfl); (case hr => first | (go_simp; done) | (go_simp; rfl)); intro gb171 hg w32 hbox hb; have n0_ := Aside0.mk (below_step (by repeat (first | (with_reducible first | exact HB.out | apply below_alloc | apply pw_below_drewN | apply below_drew1) | exact HB.out)) hb); have n1_ := Aside0.mk (hbox); have n2_ := Aside0.mk ((by rw [hg]; exact (below_size (by repeat (first | (with_reducible first | exact HB.out | apply below_alloc | apply pw_below_drewN | apply below_drew1) | exact HB.out))) : w.heap.size ≤ gb171)); have n3_ := Aside0.mk ((by rw [hg]; exact (below_size (by repeat (first | (with_reducible first | exact HB.out | apply below_alloc | apply pw_below_drewN | apply below_drew1) | exact HB.out))) : w.heap.size ≤ gb171)); clear HB; have HB := n0_; have BK171 := n1_; have GW171 := n2_; have GE171 := n3_; clear n0_ n1_ n2_ n3_; clear hb hbox hg; have hcz33_0 : w32.cell? ⟨gb171, 0, none⟩ = some (.int .i64 a0_0) := (blk_cell BK171.out 0).trans rfl; have hcz33_1 : w32.cell? ⟨gb171, 1, none⟩ = some (.int .i64 a0_1) := (blk_cell BK171.out 1).trans rfl; have hcz33_2 : w32.cell? ⟨gb171, 2, none⟩ = some (.int .i64 a0_2) := (blk_cell BK171.out 2).trans rfl; have hcz33_3 : w32.cell? ⟨gb171, 3, none⟩ = some (.slice A0_3 l0_3.length c0_3) := (blk_cell BK171.out 3).trans rfl; have hfz33_0 := blk_frozen BK171.out 0; have hfz33_1 := blk_frozen BK171.out 1; have hfz33_2 := blk_frozen BK171.out 2; have hfz33_3 := blk_frozen BK171.out 3))
          go_ret
          exact ⟨by first | rfl | (simp [errW_none, errW_some] <;> rfl) | (simp [*, errW_none, errW_some] <;> rfl), by repeat (first | (with_reducible first | exact HB.out | apply below_alloc | apply pw_below_drewN | apply below_drew1 | refine below_set ?_ GE171.out) | exact HB.out)⟩
        · rw [if_neg c31] at H
          have c31b0 : (a0_1 == 0) = false := beq_eq_false_iff_ne.mpr c31
          have c31b1 : (a0_1 != 0) = true := bne_iff_ne.mpr c31
          obtain rfl := Option.some.inj H
          go_enter Try.func52, Try.ntmps52
          go_wp2_with (first | ((with_reducible refine gate_dst (N := 1) rfl ?_); (try (refine gate_guard (by rfl) ?_; dsimp only)); refine box_event ?hg (N := 1) ?hd (cs := #[.int .i64 a0_0, .int .i64 a0_1, .int .i64 a0_2, .slice A0_3 l0_3.length c0_3]) (t := 62) ?hr ?_; (case hd => rfl); (case hg => rfl); (case hr => first | (go_simp; done) | (go_simp; rfl)); intro gb171 hg w34 hbox hb; have n0_ := Aside0.mk (below_step (by repeat (first | (with_reducible first | exact HB.out | apply below_alloc | apply pw_below_drewN | apply below_drew1) | exact HB.out)) hb); have n1_ := Aside0.mk (hbox); have n2_ := Aside0.mk ((by rw [hg]; exact (below_size (by repeat (first | (with_reducible first | exact HB.out | apply below_alloc | apply pw_below_drewN | apply below_drew1) | exact HB.out))) : w.heap.size ≤ gb171)); have n3_ := Aside0.mk ((by rw [hg]; exact (below_size (by repeat (first | (with_reducible first | exact HB.out | apply below_alloc | apply pw_below_drewN | apply below_drew1) | exact HB.out))) : w.heap.size ≤ gb171)); clear HB; have HB := n0_; have BK171 := n1_; have GW171 := n2_; have GE171 := n3_; clear n0_ n1_ n2_ n3_; clear hb hbox hg; have hcz35_0 : w34.cell? ⟨gb171, 0, none⟩ = some (.int .i64 a0_0) := (blk_cell BK171.out 0).trans rfl; have hcz35_1 : w34.cell? ⟨gb171, 1, none⟩ = some (.int .i64 a0_1) := (blk_cell BK171.out 1).trans rfl; have hcz35_2 : w34.cell? ⟨gb171, 2, none⟩ = some (.int .i64 a0_2) := (blk_cell BK171.out 2).trans rfl; have hcz35_3 : w34.cell? ⟨gb171, 3, none⟩ = some (.slice A0_3 l0_3.length c0_3) := (blk_cell BK171.out 3).trans rfl; have hfz35_0 := blk_frozen BK171.out 0; have hfz35_1 := blk_frozen BK171.out 1; have hfz35_2 := blk_frozen BK171.out 2; have hfz35_3 := blk_frozen BK171.out 3))
          go_ret
          exact ⟨by first | rfl | (simp [errW_none, errW_some] <;> rfl) | (simp [*, errW_none, errW_some] <;> rfl), by repeat (first | (with_reducible first | exact HB.out | apply below_alloc | apply pw_below_drewN | apply below_drew1 | refine below_set ?_ GE171.out) | exact HB.out)⟩
      · rw [if_neg c30] at H
        have c30b0 : decide (1 ≤ (l0_3.length : Int)) = false := decide_eq_false c30
        have c30b1 : decide (1 ≤ l0_3.length) = false := decide_eq_false (by omega)
        clear c30
        obtain rfl := Option.some.inj H
        go_enter Try.func52, Try.ntmps52
        go_wp2_with (first | ((with_reducible refine gate_dst (N := 1) rfl ?_); (try (refine gate_guard (by rfl) ?_; dsimp only)); refine box_event ?hg (N := 1) ?hd (cs := #[.int .i64 a0_0, .int .i64 a0_1, .int .i64 a0_2, .slice A0_3 l0_3.length c0_3]) (t := 62) ?hr ?_; (case hd => rfl); (case hg => rfl); (case hr => first | (go_simp; done) | (go_simp; rfl)); intro gb171 hg w36 hbox hb; have n0_ := Aside0.mk (below_step (by repeat (first | (with_reducible first | exact HB.out | apply below_alloc | apply pw_below_drewN | apply below_drew1) | exact HB.out)) hb); have n1_ := Aside0.mk (hbox); have n2_ := Aside0.mk ((by rw [hg]; exact (below_size (by repeat (first | (with_reducible first | exact HB.out | apply below_alloc | apply pw_below_drewN | apply below_drew1) | exact HB.out))) : w.heap.size ≤ gb171)); have n3_ := Aside0.mk ((by rw [hg]; exact (below_size (by repeat (first | (with_reducible first | exact HB.out | apply below_alloc | apply pw_below_drewN | apply below_drew1) | exact HB.out))) : w.heap.size ≤ gb171)); clear HB; have HB := n0_; have BK171 := n1_; have GW171 := n2_; have GE171 := n3_; clear n0_ n1_ n2_ n3_; clear hb hbox hg; have hcz37_0 : w36.cell? ⟨gb171, 0, none⟩ = some (.int .i64 a0_0) := (blk_cell BK171.out 0).trans rfl; have hcz37_1 : w36.cell? ⟨gb171, 1, none⟩ = some (.int .i64 a0_1) := (blk_cell BK171.out 1).trans rfl; have hcz37_2 : w36.cell? ⟨gb171, 2, none⟩ = some (.int .i64 a0_2) := (blk_cell BK171.out 2).trans rfl; have hcz37_3 : w36.cell? ⟨gb171, 3, none⟩ = some (.slice A0_3 l0_3.length c0_3) := (blk_cell BK171.out 3).trans rfl; have hfz37_0 := blk_frozen BK171.out 0; have hfz37_1 := blk_frozen BK171.out 1; have hfz37_2 := blk_frozen BK171.out 2; have hfz37_3 := blk_frozen BK171.out 3))
        go_ret
        exact ⟨by first | rfl | (simp [errW_none, errW_some] <;> rfl) | (simp [*, errW_none, errW_some] <;> rfl), by repeat (first | (with_reducible first | exact HB.out | apply below_alloc | apply pw_below_drewN | apply below_drew1 | refine below_set ?_ GE171.out) | exact HB.out)⟩
    · rw [if_neg c29] at H
      have c29b0 : (a0_0 == 2) = false := beq_eq_false_iff_ne.mpr c29
      have c29b1 : (a0_0 != 2) = true := bne_iff_ne.mpr c29
      obtain rfl := Option.some.inj H
      go_enter Try.func52, Try.ntmps52
      go_wp2_with (first | ((with_reducible refine gate_dst (N := 1) rfl ?_); (try (refine gate_guard (by rfl) ?_; dsimp only)); refine box_event ?hg (N := 1) ?hd (cs := #[.int .i64 a0_0, .int .i64 a0_1, .int .i64 a0_2, .slice A0_3 l0_3.length c0_3]) (t := 62) ?hr ?_; (case hd => rfl); (case hg => rfl); (case hr => first | (go_simp; done) | (go_simp; rfl)); intro gb171 hg w38 hbox hb; have n0_ := Aside0.mk (below_step (by repeat (first | (with_reducible first | exact HB.out | apply below_alloc | apply pw_below_drewN | apply below_drew1) | exact HB.out)) hb); have n1_ := Aside0.mk (hbox); have n2_ := Aside0.mk ((by rw [hg]; exact (below_size (by repeat (first | (with_reducible first | exact HB.out | apply below_alloc | apply pw_below_drewN | apply below_drew1) | exact HB.out))) : w.heap.size ≤ gb171)); have n3_ := Aside0.mk ((by rw [hg]; exact (below_size (by repeat (first | (with_reducible first | exact HB.out | apply below_alloc | apply pw_below_drewN | apply below_drew1) | exact HB.out))) : w.heap.size ≤ gb171)); clear HB; have HB := n0_; have BK171 := n1_; have GW171 := n2_; have GE171 := n3_; clear n0_ n1_ n2_ n3_; clear hb hbox hg; have hcz39_0 : w38.cell? ⟨gb171, 0, none⟩ = some (.int .i64 a0_0) := (blk_cell BK171.out 0).trans rfl; have hcz39_1 : w38.cell? ⟨gb171, 1, none⟩ = some (.int .i64 a0_1) := (blk_cell BK171.out 1).trans rfl; have hcz39_2 : w38.cell? ⟨gb171, 2, none⟩ = some (.int .i64 a0_2) := (blk_cell BK171.out 2).trans rfl; have hcz39_3 : w38.cell? ⟨gb171, 3, none⟩ = some (.slice A0_3 l0_3.length c0_3) := (blk_cell BK171.out 3).trans rfl; have hfz39_0 := blk_frozen BK171.out 0; have hfz39_1 := blk_frozen BK171.out 1; have hfz39_2 := blk_frozen BK171.out 2; have hfz39_3 := blk_frozen BK171.out 3))
      go_ret
      exact ⟨by first | rfl | (simp [errW_none, errW_some] <;> rfl) | (simp [*, errW_none, errW_some] <;> rfl), by repeat (first | (with_reducible first | exact HB.out | apply below_alloc | apply pw_below_drewN | apply below_drew1 | refine below_set ?_ GE171.out) | exact HB.out)⟩

/-! ### impl_putSeven: function 54 -/
def impl_putSeven.l0 : Nat → List Int → Int → Option (List Int)
  | 0, _, _ => none
  | k + 1, x0, x1 => if x1 > 127 then (if x0.length < 140737488355328 then (impl_putSeven.l0 k (x0 ++ [Go.bits .or .u8 ((Go.bits .and .i64 x1 127) % 256) 128]) (x1 / 128)) else (none)) else (if x0.length < 140737488355328 then (some (x0 ++ [(x1) % 256])) else (none))
def impl_putSeven.f (k : Nat) (l0 : List Int) (a1 : Int) : Option (List Int) := impl_putSeven.l0 k l0 a1
theorem impl_putSeven.mono_l : ∀ k, (∀ y0 y1, LeO (impl_putSeven.l0 k y0 y1) (impl_putSeven.l0 (k + 1) y0 y1))
  | 0 => fun _ _ r h => by simp [impl_putSeven.l0] at h
  | k + 1 => by
    have ih0 := impl_putSeven.mono_l k
    · intro y0 y1
      unfold impl_putSeven.l0
      repeat' first
      | (with_reducible exact ih0 _ _)
      | (with_reducible exact LeO.refl _)
      | (with_reducible exact LeO.none _)
      | (with_reducible refine LeO.ite ?_ ?_)
      | (with_reducible refine LeO.bind ?_ (fun _ => ?_))
      | exact ih0 _ _
      | exact LeO.none _
      | refine LeO.ite ?_ ?_
      | refine LeO.bind ?_ (fun _ => ?_)
theorem impl_putSeven.mono : ∀ a0 a1 k, LeO (impl_putSeven.f k a0 a1) (impl_putSeven.f (k + 1) a0 a1) := by
  intro a0 a1 k
  have ih0 := impl_putSeven.mono_l k
  unfold impl_putSeven.f
  repeat' first
      | (with_reducible exact ih0 _ _)
      | (with_reducible exact LeO.refl _)
      | (with_reducible exact LeO.none _)
      | (with_reducible refine LeO.ite ?_ ?_)
      | (with_reducible refine LeO.bind ?_ (fun _ => ?_))
      | exact ih0 _ _
      | exact LeO.none _
      | refine LeO.ite ?_ ?_
      | refine LeO.bind ?_ (fun _ => ?_)
set_option maxHeartbeats 8000000 in
set_option maxRecDepth 100000 in
theorem impl_putSeven.calls (k : Nat) (P0_ : Nat → Prop) (u9000_ : Value) (l0 : List Int) (a1 : Int) (r : List Int) (w0 w : World) (hB : Below w0.heap.size w0 w) (ho0 : Kd.R (Kd.int .u8) 5 w w0.heap.size P0_ u9000_ l0) (h : impl_putSeven.f k l0 a1 = some r) :
    Calls Try.prog 54 #[u9000_, .int .i64 a1] w fun e w' => ∃ v0_ : Value, e = .returned (v0_) ∧ Kd.R (Kd.int .u8) 5 w' w0.heap.size (fun k_ => (P0_ k_ ∨ w.heap.size ≤ k_)) v0_ r ∧ Below w0.heap.size w0 w' ∧ Kept w w' (fun k_ => P0_ k_) := by
  have HO0 := Aside0.mk (show Kd.R (Kd.int .u8) 5 w w0.heap.size (fun k_ => (P0_ k_ ∨ w.heap.size ≤ k_)) u9000_ l0 from Kd.R_mono ho0 (fun k_ hk => (.inl hk)))
  have HK := Aside0.mk (Kept.refl w (fun k_ => P0_ k_))
  have HW0 := Aside0.mk hB.size
  have HB := Aside0.mk hB
  clear hB
  have H : (impl_putSeven.l0 k l0 a1) = some r := h
  clear h
  have H' := Aside0.mk H
  clear H
  go_enter Try.func54, Try.ntmps54
  go_wp2
  go_loopg [0, 1] k (fun kq v0 v1 w' => ∃ (x0_1 : List Int) (x1_1 : Int), v1 = .int .i64 x1_1 ∧ Aside0 (impl_putSeven.l0 kq x0_1 x1_1 = some r) ∧ Aside0 (kq ≤ k) ∧ Aside0 (Kd.R (Kd.int .u8) 5 w' w0.heap.size (fun k_ => (P0_ k_ ∨ w.heap.size ≤ k_)) v0 x0_1) ∧ Aside0 (Kept w w' (fun k_ => P0_ k_)) ∧ Aside0 (Below w0.heap.size w0 w'))
  case atStart => exact ⟨(l0), (a1), (by first | rfl | (simp; done) | (simp [*]; done)), H', ⟨Nat.le_refl _⟩, ⟨by (with_reducible repeat (first | apply Kd.R_alloc | apply Kd.R_drewN | apply Kd.R_drew)); exact HO0.out⟩, ⟨by repeat (first | (with_reducible first | exact HK.out | apply Kept.alloc | apply Kept.drewN | apply Kept.drew) | exact HK.out)⟩, ⟨by repeat (first | (with_reducible first | exact HB.out | apply below_alloc | apply pw_below_drewN | apply below_drew1) | exact HB.out)⟩⟩
  case round =>
    clear H'
    try clear p2
    obtain ⟨x0_1, x1_1, rfl, HA, HK1, HO_0, HK, HB⟩ := hrel
    cases gk with
    | zero => exact absurd HA.out (by simp [impl_putSeven.l0])
    | succ k1 =>
      have H := HA.out
      clear HA
      simp only [impl_putSeven.l0] at H
      by_cases c3 : x1_1 > 127
      · rw [if_pos c3] at H
        have c3b0 : decide (127 < x1_1) = true := decide_eq_true c3
        clear c3
        by_cases c4 : x0_1.length < 140737488355328
        · rw [if_pos c4] at H
          have LMc4 := Aside0.mk c4
          clear c4
          obtain ⟨y172, hy172⟩ : ∃ y_ : List Int, y_ = (x0_1 ++ [Go.bits .or .u8 ((Go.bits .and .i64 x1_1 127) % 256) 128]) := ⟨_, rfl⟩
          replace H : (impl_putSeven.l0 k1 y172 (x1_1 / 128)) = some r := by first | (rw [hy172]; with_reducible exact H) | (have H2_ := (Option.bind_some _ _).symm.trans H; rw [hy172]; with_reducible exact H2_) | (have H2_ := (Option.bind_some _ _).symm.trans H; with_reducible exact H2_) | with_reducible exact H | (rw [hy172]; exact H) | exact H
          have Ny172 := Aside0.mk hy172
          clear hy172
          have H' := Aside0.mk H
          clear H
          go_wp2_with (first | ((with_reducible refine gate_builtin (b := .append) (xs := #[.tmp 7, .tmp 12]) rfl ?_); at_builtin; refine Kd.R_append (Kd.int .u8) (w0 := w0) w0.heap.size rfl (.tmp 7) (.tmp 12) 22 5 (.int .u8 0) 1 rfl Try.underlying22 info5 rfl (by decide) (by omega) u0 x0_1 (Go.bits .or .u8 ((Go.bits .and .i64 x1_1 127) % 256) 128) [.int .u8 (Go.bits .or .u8 ((Go.bits .and .i64 x1_1 127) % 256) 128)] (fun k_ => (P0_ k_ ∨ w.heap.size ≤ k_)) (fun _ => False) rfl rfl ?aP (fun _ hk => hk.elim) ?aF ?aO ?aB ?aS ?aL ?_; (case aP => exact rfl); (case aB => exact (by repeat (first | (with_reducible first | exact HB.out | apply below_alloc | apply pw_below_drewN | apply below_drew1) | exact HB.out))); (case aF => exact (fun k_ hk => (.inr (Nat.le_trans (by first | exact HK.out.1 | exact (show Kept w _ (fun k_ => P0_ k_) from by repeat (first | (with_reducible first | exact HK.out | apply Kept.alloc | apply Kept.drewN | apply Kept.drew) | exact HK.out)).1) hk)))); (case aO => exact (by (with_reducible repeat (first | apply Kd.R_alloc | apply Kd.R_drewN | apply Kd.R_drew)); exact HO_0.out)); (case aS => exact (below_size (by repeat (first | (with_reducible first | exact HB.out | apply below_alloc | apply pw_below_drewN | apply below_drew1) | exact HB.out)))); (case aL => have := LMc4.out; omega); intro v173 w5 ho hb hg hat; rw [← Ny172.out] at ho; have n0_ := Aside0.mk (hb); have n1_ := Aside0.mk (Kept.of_grown (S := (fun k_ => P0_ k_)) hg (by repeat (first | (with_reducible first | exact HK.out | apply Kept.alloc | apply Kept.drewN | apply Kept.drew) | exact HK.out)) (fun k_ e_ => (HO_0.out.1 k_ e_))); have n2_ := Aside0.mk (ho); clear HB; clear HK; clear HO_0; have HB := n0_; have HK := n1_; have HO174 := n2_; clear n0_ n1_ n2_; clear ho hb hg hat))
          go_roundg k1
          case measure => have := HK1.out; omega
          case rel => exact ⟨(y172), (x1_1 / 128), (by first | rfl | (simp; done) | (simp [*]; done)), H', ⟨by have := HK1.out; omega⟩, ⟨by (with_reducible repeat (first | apply Kd.R_alloc | apply Kd.R_drewN | apply Kd.R_drew)); exact HO174.out⟩, ⟨by repeat (first | (with_reducible first | exact HK.out | apply Kept.alloc | apply Kept.drewN | apply Kept.drew) | exact HK.out)⟩, ⟨by repeat (first | (with_reducible first | exact HB.out | apply below_alloc | apply pw_below_drewN | apply below_drew1) | exact HB.out)⟩⟩
        · rw [if_neg c4] at H
          exact absurd H (by simp)
      · rw [if_neg c3] at H
        have c3b0 : decide (127 < x1_1) = false := decide_eq_false c3
        clear c3
        by_cases c6 : x0_1.length < 140737488355328
        · rw [if_pos c6] at H
          have LMc6 := Aside0.mk c6
          clear c6
          obtain ⟨y175, hy175⟩ : ∃ y_ : List Int, y_ = (x0_1 ++ [(x1_1) % 256]) := ⟨_, rfl⟩
          replace H : (some y175) = some r := by first | (rw [hy175]; with_reducible exact H) | (have H2_ := (Option.bind_some _ _).symm.trans H; rw [hy175]; with_reducible exact H2_) | (have H2_ := (Option.bind_some _ _).symm.trans H; with_reducible exact H2_) | with_reducible exact H | (rw [hy175]; exact H) | exact H
          have Ny175 := Aside0.mk hy175
          clear hy175
          obtain rfl := Option.some.inj H
          go_wp2_with (first | ((with_reducible refine gate_builtin (b := .append) (xs := #[.tmp 16, .tmp 19]) rfl ?_); at_builtin; refine Kd.R_append (Kd.int .u8) (w0 := w0) w0.heap.size rfl (.tmp 16) (.tmp 19) 22 5 (.int .u8 0) 1 rfl Try.underlying22 info5 rfl (by decide) (by omega) u0 x0_1 ((x1_1) % 256) [.int .u8 ((x1_1) % 256)] (fun k_ => (P0_ k_ ∨ w.heap.size ≤ k_)) (fun _ => False) rfl rfl ?aP (fun _ hk => hk.elim) ?aF ?aO ?aB ?aS ?aL ?_; (case aP => exact rfl); (case aB => exact (by repeat (first | (with_reducible first | exact HB.out | apply below_alloc | apply pw_below_drewN | apply below_drew1) | exact HB.out))); (case aF => exact (fun k_ hk => (.inr (Nat.le_trans (by first | exact HK.out.1 | exact (show Kept w _ (fun k_ => P0_ k_) from by repeat (first | (with_reducible first | exact HK.out | apply Kept.alloc | apply Kept.drewN | apply Kept.drew) | exact HK.out)).1) hk)))); (case aO => exact (by (with_reducible repeat (first | apply Kd.R_alloc | apply Kd.R_drewN | apply Kd.R_drew)); exact HO_0.out)); (case aS => exact (below_size (by repeat (first | (with_reducible first | exact HB.out | apply below_alloc | apply pw_below_drewN | apply below_drew1) | exact HB.out)))); (case aL => have := LMc6.out; omega); intro v176 w7 ho hb hg hat; rw [← Ny175.out] at ho; have n0_ := Aside0.mk (hb); have n1_ := Aside0.mk (Kept.of_grown (S := (fun k_ => P0_ k_)) hg (by repeat (first | (with_reducible first | exact HK.out | apply Kept.alloc | apply Kept.drewN | apply Kept.drew) | exact HK.out)) (fun k_ e_ => (HO_0.out.1 k_ e_))); have n2_ := Aside0.mk (ho); clear HB; clear HK; clear HO_0; have HB := n0_; have HK := n1_; have HO177 := n2_; clear n0_ n1_ n2_; clear ho hb hg hat))
          go_ret
          exact ⟨_, by first | rfl | (simp [errW_none, errW_some] <;> rfl) | (simp [*, errW_none, errW_some] <;> rfl), by (with_reducible repeat (first | apply Kd.R_alloc | apply Kd.R_drewN | apply Kd.R_drew)); exact HO177.out, by repeat (first | (with_reducible first | exact HB.out | apply below_alloc | apply pw_below_drewN | apply below_drew1) | exact HB.out), by repeat (first | (with_reducible first | exact HK.out | apply Kept.alloc | apply Kept.drewN | apply Kept.drew) | exact HK.out)⟩
        · rw [if_neg c6] at H
          exact absurd H (by simp)

end Go.Proofs.Ytkijlpiiiejjkaa.PFnExactDeltaBytes
