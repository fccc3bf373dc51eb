-- Laid by a program of this session: a turned copy of the kit's print, with contracts by hand beside.
import Derived.Test.YtkijlpiiiejjkaaPFnExactDeltaBytesx0
import Derived.Test.YtkijlpiiiejjkaaPFnExactDeltaBytesx3
namespace Go.Proofs.Ytkijlpiiiejjkaa.PFnExactDeltaBytes
open Go.RowKit Go.Proofs.YtkijlpiiiejjkaaW.PrintWords Go.Proofs.YtkijlpiiiejjkaaW.PrintLast Go.Proofs.YtkijlpiiiejjkaaW.PrintMore
attribute [local go_sem] max2_int min2_int max_two min_two max_three min_three max_four min_four   -- for this text's walks alone
set_option linter.unusedVariables false
set_option linter.unusedSimpArgs false

/-! ### impl_DeltaBytes: function 30 -/
mutual
def impl_DeltaBytes.l0 : Nat → List Int → List (S62) → Int → Int → Option (List Int)
  | 0, _, _, _, _ => none
  | k + 1, x3, x11, x12, x13 => if x13 < x12 then (if 0 ≤ x13 then (if x13 < (x11.length : Int) then ((impl_stepOk.f ((rd_T62 x11 x13).f0) ((rd_T62 x11 x13).f1) ((rd_T62 x11 x13).f2) ((rd_T62 x11 x13).f3)).bind fun t183 => (if t183 = true then (if x3.length < 140737488355328 then ((some (x3 ++ [((rd_T62 x11 x13).f0) % 256] : List Int)).bind fun y184 => (if ((rd_T62 x11 x13).f0) = 1 then (if ((rd_T62 x11 x13).f1) < 0 then (impl_DeltaBytes.j1 k y184 x11 x12 x13 true ((rd_T62 x11 x13).f0) ((rd_T62 x11 x13).f1) ((rd_T62 x11 x13).f2) ((rd_T62 x11 x13).f3)) else (if ((rd_T62 x11 x13).f1) > 268435455 then (impl_DeltaBytes.j1 k y184 x11 x12 x13 true ((rd_T62 x11 x13).f0) ((rd_T62 x11 x13).f1) ((rd_T62 x11 x13).f2) ((rd_T62 x11 x13).f3)) else (impl_DeltaBytes.j1 k y184 x11 x12 x13 (decide (((rd_T62 x11 x13).f2) > 268435455)) ((rd_T62 x11 x13).f0) ((rd_T62 x11 x13).f1) ((rd_T62 x11 x13).f2) ((rd_T62 x11 x13).f3)))) else ((impl_putSeven.f k y184 (((rd_T62 x11 x13).f3).length : Int)).bind fun t193 => (if t193.length + ((rd_T62 x11 x13).f3).length < 140737488355328 then (impl_DeltaBytes.l0 k (t193 ++ ((rd_T62 x11 x13).f3)) x11 x12 (wrap64 (x13 + 1))) else (none))))) else (none)) else (some ([] : List Int)))) else (none)) else (none)) else (some x3)
def impl_DeltaBytes.j1 : Nat → List Int → List (S62) → Int → Int → Bool → Int → Int → Int → List Int → Option (List Int)
  | 0, _, _, _, _, _, _, _, _, _ => none
  | k + 1, x3, x11, x12, x13, x41, x183000, x183001, x183002, x183003 => if x41 = true then (some ([] : List Int)) else ((impl_putSeven.f k x3 x183001).bind fun t187 => ((impl_putSeven.f k t187 x183002).bind fun t190 => (impl_DeltaBytes.l0 k t190 x11 x12 (wrap64 (x13 + 1)))))
end
def impl_DeltaBytes.f (k : Nat) (l0 : List (S62)) : Option (List Int) := if (l0.length : Int) > 10000 then (some ([] : List Int)) else (impl_DeltaBytes.l0 k (([76, 68, 84, 49] : List Int)) l0 (l0.length : Int) 0)
theorem impl_DeltaBytes.mono_l : ∀ k, (∀ y0 y1 y2 y3, LeO (impl_DeltaBytes.l0 k y0 y1 y2 y3) (impl_DeltaBytes.l0 (k + 1) y0 y1 y2 y3)) ∧ (∀ y0 y1 y2 y3 y4 y5 y6 y7 y8, LeO (impl_DeltaBytes.j1 k y0 y1 y2 y3 y4 y5 y6 y7 y8) (impl_DeltaBytes.j1 (k + 1) y0 y1 y2 y3 y4 y5 y6 y7 y8))
  | 0 => ⟨fun _ _ _ _ r h => by simp [impl_DeltaBytes.l0] at h, fun _ _ _ _ _ _ _ _ _ r h => by simp [impl_DeltaBytes.j1] at h⟩
  | k + 1 => by
    obtain ⟨ih0, ih1⟩ := impl_DeltaBytes.mono_l k
    refine ⟨?_, ?_⟩
    · intro y0 y1 y2 y3
      unfold impl_DeltaBytes.l0
      repeat' first
      | (with_reducible exact ih0 _ _ _ _)
      | (with_reducible exact ih1 _ _ _ _ _ _ _ _ _)
      | (with_reducible exact impl_putSeven.mono _ _ _)
      | (with_reducible exact LeO.refl _)
      | (with_reducible exact LeO.none _)
      | (with_reducible refine LeO.ite ?_ ?_)
      | (with_reducible refine LeO.bind ?_ (fun _ => ?_))
      | exact ih0 _ _ _ _
      | exact ih1 _ _ _ _ _ _ _ _ _
      | exact impl_putSeven.mono _ _ _
      | exact LeO.none _
      | refine LeO.ite ?_ ?_
      | refine LeO.bind ?_ (fun _ => ?_)
    · intro y0 y1 y2 y3 y4 y5 y6 y7 y8
      unfold impl_DeltaBytes.j1
      repeat' first
      | (with_reducible exact ih0 _ _ _ _)
      | (with_reducible exact ih1 _ _ _ _ _ _ _ _ _)
      | (with_reducible exact impl_putSeven.mono _ _ _)
      | (with_reducible exact LeO.refl _)
      | (with_reducible exact LeO.none _)
      | (with_reducible refine LeO.ite ?_ ?_)
      | (with_reducible refine LeO.bind ?_ (fun _ => ?_))
      | exact ih0 _ _ _ _
      | exact ih1 _ _ _ _ _ _ _ _ _
      | exact impl_putSeven.mono _ _ _
      | exact LeO.none _
      | refine LeO.ite ?_ ?_
      | refine LeO.bind ?_ (fun _ => ?_)
theorem impl_DeltaBytes.mono : ∀ a0 k, LeO (impl_DeltaBytes.f k a0) (impl_DeltaBytes.f (k + 1) a0) := by
  intro a0 k
  obtain ⟨ih0, ih1⟩ := impl_DeltaBytes.mono_l k
  unfold impl_DeltaBytes.f
  repeat' first
      | (with_reducible exact ih0 _ _ _ _)
      | (with_reducible exact ih1 _ _ _ _ _ _ _ _ _)
      | (with_reducible exact impl_putSeven.mono _ _ _)
      | (with_reducible exact LeO.refl _)
      | (with_reducible exact LeO.none _)
      | (with_reducible refine LeO.ite ?_ ?_)
      | (with_reducible refine LeO.bind ?_ (fun _ => ?_))
      | exact ih0 _ _ _ _
      | exact ih1 _ _ _ _ _ _ _ _ _
      | exact impl_putSeven.mono _ _ _
      | exact LeO.none _
      | refine LeO.ite ?_ ?_
      | refine LeO.bind ?_ (fun _ => ?_)
def impl_DeltaBytes.T13 : Bool × List (List Nat × List Nat) := (true, [([], []), ([], []), ([1], [1]), ([0, 2], [0, 2]), ([], []), ([4], [4]), ([3, 5, 3], [3, 5]), ([6, 6, 0, 1, 2, 3, 4, 5, 6], [0, 6])])
def impl_DeltaBytes.B13 : List Nat := [0, 0, 2, 7, 0, 16, 63, 127]
theorem impl_DeltaBytes.tab13 : rtab .any (opsOf Try.f30 13) = impl_DeltaBytes.T13 := by kernel_rfl
theorem impl_DeltaBytes.bits13 : waitsOk impl_DeltaBytes.T13.2 impl_DeltaBytes.B13 = true := by kernel_rfl
def impl_DeltaBytes.T14 : Bool × List (List Nat × List Nat) := (true, [([], []), ([], []), ([1], [1]), ([2], [2]), ([0, 3], [0, 3]), ([], []), ([5], [5]), ([4, 6, 4], [4, 6]), ([7, 7, 0, 1, 2, 3, 4, 5, 6, 7], [0, 7])])
def impl_DeltaBytes.B14 : List Nat := [0, 0, 2, 6, 15, 0, 32, 127, 255]
theorem impl_DeltaBytes.tab14 : rtab .any (opsOf Try.f30 14) = impl_DeltaBytes.T14 := by kernel_rfl
theorem impl_DeltaBytes.bits14 : waitsOk impl_DeltaBytes.T14.2 impl_DeltaBytes.B14 = true := by kernel_rfl
set_option maxHeartbeats 8000000 in
set_option maxRecDepth 100000 in
theorem impl_DeltaBytes.callsM (k : Nat) (A0 : Option Addr) (c0 : Nat) (l0 : List (S62)) (r : List Int) (w : World) (hr0 : Kd.C k62 w A0 l0.length l0) (hc0 : l0.length ≤ c0) (h : impl_DeltaBytes.f k l0 = some r) :
    Calls Try.prog 30 #[.slice A0 l0.length c0] w fun e w' => ∃ v0_ : Value, e = .returned (v0_) ∧ Kd.RM 5 w' w.heap.size (fun _ => True) v0_ r ∧ Below w.heap.size w w' := by
  have hu62 := Try.underlying62
  have HR0 := Aside0.mk hr0
  have HC0 := Aside0.mk hc0
  clear hr0 hc0
  have HB := Aside0.mk (Below.refl w.heap.size w)
  have H : (if (l0.length : Int) > 10000 then (some ([] : List Int)) else (impl_DeltaBytes.l0 k (([76, 68, 84, 49] : List Int)) l0 (l0.length : Int) 0)) = some r := h
  clear h
  by_cases c2 : (l0.length : Int) > 10000
  · rw [if_pos c2] at H
    have c2b0 : decide (10000 < (l0.length : Int)) = true := decide_eq_true c2
    have c2b1 : decide (10000 < l0.length) = true := decide_eq_true (by omega)
    clear c2
    obtain rfl := Option.some.inj H
    go_enter Try.func30, Try.ntmps30
    go_wp2
    go_ret
    exact ⟨_, by first | rfl | (simp [errW_none, errW_some] <;> rfl) | (simp [*, errW_none, errW_some] <;> rfl), Kd.RM_of (Kd.R_nil _ _ _ _ _), by repeat (first | (with_reducible first | exact HB.out | apply below_alloc | apply pw_below_drewN | apply below_drew1) | exact HB.out)⟩
  · rw [if_neg c2] at H
    have c2b0 : decide (10000 < (l0.length : Int)) = false := decide_eq_false c2
    have c2b1 : decide (10000 < l0.length) = false := decide_eq_false (by omega)
    clear c2
    obtain ⟨y178, hy178⟩ : ∃ y_ : List Int, y_ = (([76, 68, 84, 49] : List Int)) := ⟨_, rfl⟩
    replace H : (impl_DeltaBytes.l0 k y178 l0 (l0.length : Int) 0) = some r := by first | (rw [hy178]; with_reducible exact H) | (have H2_ := (Option.bind_some _ _).symm.trans H; rw [hy178]; with_reducible exact H2_) | (have H2_ := (Option.bind_some _ _).symm.trans H; with_reducible exact H2_) | with_reducible exact H | (rw [hy178]; exact H) | exact H
    have Ny178 := Aside0.mk hy178
    clear hy178
    have H' := Aside0.mk H
    clear H
    go_enter Try.func30, Try.ntmps30
    have kc := fun (w : World) (C : Array Value) (n c : Nat) => Go.Lib.run_convert_bytes_const (P := Try.prog) w 22 5 C n c Try.underlying22 Try.underlying5
    go_wp2
    go_loopg [3, 13] k (fun kq v3 v13 w' => ∃ (x3_1 : List Int) (x13_1 : Int), v13 = .int .i64 x13_1 ∧ Aside0 (impl_DeltaBytes.l0 kq x3_1 l0 (l0.length : Int) x13_1 = some r) ∧ Aside0 (kq ≤ k) ∧ Aside0 (Kd.RM 5 w' w.heap.size (fun _ => True) v3 x3_1) ∧ Aside0 (Below w.heap.size w w'))
    case atStart => exact ⟨(y178), (0), (by first | rfl | (simp; done) | (simp [*]; done)), H', ⟨Nat.le_refl _⟩, ⟨by rw [Ny178.out]; exact Kd.RM_new _ _ _ _ _ (by rfl) (by rfl) (by decide) (by decide)⟩, ⟨by repeat (first | (with_reducible first | exact HB.out | apply below_alloc | apply pw_below_drewN | apply below_drew1) | exact HB.out)⟩⟩
    case round =>
      clear H'
      try clear c2
      try clear c2b0
      try clear c2b1
      try clear p2
      try clear c3
      obtain ⟨x3_1, x13_1, rfl, HA, HK1, HO_3, HB⟩ := hrel
      cases gk with
      | zero => exact absurd HA.out (by simp [impl_DeltaBytes.l0])
      | succ k1 =>
        have H := HA.out
        clear HA
        simp only [impl_DeltaBytes.l0] at H
        by_cases c5 : x13_1 < (l0.length : Int)
        · rw [if_pos c5] at H
          have c5b0 : decide (x13_1 < (l0.length : Int)) = true := decide_eq_true c5
          clear c5
          by_cases c6 : 0 ≤ x13_1
          · rw [if_pos c6] at H
            have c6b0 : decide (0 ≤ x13_1) = true := decide_eq_true c6
            clear c6
            by_cases c7 : x13_1 < (l0.length : Int)
            · rw [if_pos c7] at H
              have c7b0 : decide (x13_1 < (l0.length : Int)) = true := decide_eq_true c7
              clear c7
              replace H := Option.bind_eq_some_iff.mp H
              obtain ⟨t183, A80, H⟩ := H
              replace H : (if t183 = true then (if x3_1.length < 140737488355328 then ((some (x3_1 ++ [((rd_T62 l0 x13_1).f0) % 256] : List Int)).bind fun y184 => (if ((rd_T62 l0 x13_1).f0) = 1 then (if ((rd_T62 l0 x13_1).f1) < 0 then (impl_DeltaBytes.j1 k1 y184 l0 (l0.length : Int) x13_1 true ((rd_T62 l0 x13_1).f0) ((rd_T62 l0 x13_1).f1) ((rd_T62 l0 x13_1).f2) ((rd_T62 l0 x13_1).f3)) else (if ((rd_T62 l0 x13_1).f1) > 268435455 then (impl_DeltaBytes.j1 k1 y184 l0 (l0.length : Int) x13_1 true ((rd_T62 l0 x13_1).f0) ((rd_T62 l0 x13_1).f1) ((rd_T62 l0 x13_1).f2) ((rd_T62 l0 x13_1).f3)) else (impl_DeltaBytes.j1 k1 y184 l0 (l0.length : Int) x13_1 (decide (((rd_T62 l0 x13_1).f2) > 268435455)) ((rd_T62 l0 x13_1).f0) ((rd_T62 l0 x13_1).f1) ((rd_T62 l0 x13_1).f2) ((rd_T62 l0 x13_1).f3)))) else ((impl_putSeven.f k1 y184 (((rd_T62 l0 x13_1).f3).length : Int)).bind fun t193 => (if t193.length + ((rd_T62 l0 x13_1).f3).length < 140737488355328 then (impl_DeltaBytes.l0 k1 (t193 ++ ((rd_T62 l0 x13_1).f3)) l0 (l0.length : Int) (wrap64 (x13_1 + 1))) else (none))))) else (none)) else (some ([] : List Int))) = some r := H
              have A8 := Aside0.mk A80
              clear A80
              by_cases c9 : t183 = true
              · subst c9
                have H1 : (if x3_1.length < 140737488355328 then ((some (x3_1 ++ [((rd_T62 l0 x13_1).f0) % 256] : List Int)).bind fun y184 => (if ((rd_T62 l0 x13_1).f0) = 1 then (if ((rd_T62 l0 x13_1).f1) < 0 then (impl_DeltaBytes.j1 k1 y184 l0 (l0.length : Int) x13_1 true ((rd_T62 l0 x13_1).f0) ((rd_T62 l0 x13_1).f1) ((rd_T62 l0 x13_1).f2) ((rd_T62 l0 x13_1).f3)) else (if ((rd_T62 l0 x13_1).f1) > 268435455 then (impl_DeltaBytes.j1 k1 y184 l0 (l0.length : Int) x13_1 true ((rd_T62 l0 x13_1).f0) ((rd_T62 l0 x13_1).f1) ((rd_T62 l0 x13_1).f2) ((rd_T62 l0 x13_1).f3)) else (impl_DeltaBytes.j1 k1 y184 l0 (l0.length : Int) x13_1 (decide (((rd_T62 l0 x13_1).f2) > 268435455)) ((rd_T62 l0 x13_1).f0) ((rd_T62 l0 x13_1).f1) ((rd_T62 l0 x13_1).f2) ((rd_T62 l0 x13_1).f3)))) else ((impl_putSeven.f k1 y184 (((rd_T62 l0 x13_1).f3).length : Int)).bind fun t193 => (if t193.length + ((rd_T62 l0 x13_1).f3).length < 140737488355328 then (impl_DeltaBytes.l0 k1 (t193 ++ ((rd_T62 l0 x13_1).f3)) l0 (l0.length : Int) (wrap64 (x13_1 + 1))) else (none))))) else (none)) = some r := by rw [if_pos rfl] at H; exact H
                clear H
                have H := H1
                clear H1
                by_cases c10 : x3_1.length < 140737488355328
                · rw [if_pos c10] at H
                  have LMc10 := Aside0.mk c10
                  clear c10
                  obtain ⟨y184, hy184⟩ : ∃ y_ : List Int, y_ = (x3_1 ++ [((rd_T62 l0 x13_1).f0) % 256]) := ⟨_, rfl⟩
                  replace H : (if ((rd_T62 l0 x13_1).f0) = 1 then (if ((rd_T62 l0 x13_1).f1) < 0 then (impl_DeltaBytes.j1 k1 y184 l0 (l0.length : Int) x13_1 true ((rd_T62 l0 x13_1).f0) ((rd_T62 l0 x13_1).f1) ((rd_T62 l0 x13_1).f2) ((rd_T62 l0 x13_1).f3)) else (if ((rd_T62 l0 x13_1).f1) > 268435455 then (impl_DeltaBytes.j1 k1 y184 l0 (l0.length : Int) x13_1 true ((rd_T62 l0 x13_1).f0) ((rd_T62 l0 x13_1).f1) ((rd_T62 l0 x13_1).f2) ((rd_T62 l0 x13_1).f3)) else (impl_DeltaBytes.j1 k1 y184 l0 (l0.length : Int) x13_1 (decide (((rd_T62 l0 x13_1).f2) > 268435455)) ((rd_T62 l0 x13_1).f0) ((rd_T62 l0 x13_1).f1) ((rd_T62 l0 x13_1).f2) ((rd_T62 l0 x13_1).f3)))) else ((impl_putSeven.f k1 y184 (((rd_T62 l0 x13_1).f3).length : Int)).bind fun t193 => (if t193.length + ((rd_T62 l0 x13_1).f3).length < 140737488355328 then (impl_DeltaBytes.l0 k1 (t193 ++ ((rd_T62 l0 x13_1).f3)) l0 (l0.length : Int) (wrap64 (x13_1 + 1))) else (none)))) = some r := by first | (rw [hy184]; with_reducible exact H) | (have H2_ := (Option.bind_some _ _).symm.trans H; rw [hy184]; with_reducible exact H2_) | (have H2_ := (Option.bind_some _ _).symm.trans H; with_reducible exact H2_) | with_reducible exact H | (rw [hy184]; exact H) | exact H
                  have Ny184 := Aside0.mk hy184
                  clear hy184
                  by_cases c11 : ((rd_T62 l0 x13_1).f0) = 1
                  · rw [if_pos c11] at H
                    have c11b0 : (((rd_T62 l0 x13_1).f0) == 1) = true := beq_iff_eq.mpr c11
                    have c11b1 : (((rd_T62 l0 x13_1).f0) != 1) = false := bne_eq_false_iff_eq.mpr c11
                    clear c11
                    have HC12 := Aside0.mk H
                    clear H
                    have p181 : 0 ≤ (x13_1 : Int) := of_decide_eq_true (by first | (with_reducible assumption) | assumption)
                    have q181 : x13_1 < (l0.length : Int) := of_decide_eq_true (by first | (with_reducible assumption) | assumption)
                    obtain ⟨ad181, A181_3, c181_3, e181, hx181_0, hx181_1, hx181_2, hx181_3, hl181_3, hi181_3⟩ := at_T62 HR0.out x13_1 p181 q181
                    cases e181
                    try (replace hx181_0 := (HB.out.cell (World.block_lt_of_cell? w _ hx181_0)).trans hx181_0)
                    try (replace hx181_1 := (HB.out.cell (World.block_lt_of_cell? w _ hx181_1)).trans hx181_1)
                    try (replace hx181_2 := (HB.out.cell (World.block_lt_of_cell? w _ hx181_2)).trans hx181_2)
                    try (replace hx181_3 := (HB.out.cell (World.block_lt_of_cell? w _ hx181_3)).trans hx181_3)
                    have HR181_3 := Aside0.mk hi181_3
                    have HC181_3 := Aside0.mk hl181_3
                    clear hi181_3 hl181_3
                    replace p181 := eq_true p181
                    replace q181 := eq_true q181
                    go_upto_region 11 with (first | ((with_reducible refine gate_dst (N := 5) rfl ?_); refine box_event ?hg (N := 5) ?hd (cs := #[.int .i64 0, .int .i64 0, .int .i64 0, .slice none 0 0]) (t := 62) ?hr ?_; (case hd => rfl); (case hg => rfl); (case hr => first | (go_simp; done) | (go_simp; rfl)); intro gb182 hg w13 hbox hb; have n0_ := Aside0.mk (Kd.RM_below (by (with_reducible repeat (first | apply Kd.RM_alloc | apply Kd.RM_drewN | apply Kd.RM_drew)); exact HO_3.out) hb); have n1_ := Aside0.mk (below_step (by repeat (first | (with_reducible first | exact HB.out | apply below_alloc | apply pw_below_drewN | apply below_drew1) | exact HB.out)) hb); have n2_ := Aside0.mk (hbox); have n3_ := Aside0.mk ((by rw [hg]; exact (below_size (by repeat (first | (with_reducible first | exact HB.out | apply below_alloc | apply pw_below_drewN | apply below_drew1) | exact HB.out))) : w.heap.size ≤ gb182)); have n4_ := Aside0.mk ((by rw [hg]; exact (below_size (by repeat (first | (with_reducible first | exact HB.out | apply below_alloc | apply pw_below_drewN | apply below_drew1) | exact HB.out))) : w.heap.size ≤ gb182)); clear HO_3; clear HB; have HO_3 := n0_; have HB := n1_; have BK182 := n2_; have GW182 := n3_; have GE182 := n4_; clear n0_ n1_ n2_ n3_ n4_; clear hb hbox hg; have hcz14_0 : w13.cell? ⟨gb182, 0, none⟩ = some (.int .i64 0) := (blk_cell BK182.out 0).trans rfl; have hcz14_1 : w13.cell? ⟨gb182, 1, none⟩ = some (.int .i64 0) := (blk_cell BK182.out 1).trans rfl; have hcz14_2 : w13.cell? ⟨gb182, 2, none⟩ = some (.int .i64 0) := (blk_cell BK182.out 2).trans rfl; have hcz14_3 : w13.cell? ⟨gb182, 3, none⟩ = some (.slice none 0 0) := (blk_cell BK182.out 3).trans rfl; have hfz14_0 := blk_frozen BK182.out 0; have hfz14_1 := blk_frozen BK182.out 1; have hfz14_2 := blk_frozen BK182.out 2; have hfz14_3 := blk_frozen BK182.out 3) | ((with_reducible refine gate_callee (f := 52) rfl ?_); refine goesL_ (some 18) rfl rfl Try.func52 (by kernel_rfl) rfl #[.agg #[.int .i64 ((rd_T62 l0 x13_1).f0), .int .i64 ((rd_T62 l0 x13_1).f1), .int .i64 ((rd_T62 l0 x13_1).f2), .slice A181_3 ((rd_T62 l0 x13_1).f3).length c181_3]] rfl (by (try simp only [List.map_toArray, List.map_cons, List.map_nil]); first | done | rfl | (simp only [List.length_drop, List.length_take]; rfl)) ?_; (with_reducible refine (impl_stepOk.calls ((rd_T62 l0 x13_1).f0) ((rd_T62 l0 x13_1).f1) ((rd_T62 l0 x13_1).f2) _ _ ((rd_T62 l0 x13_1).f3) true _ ?side1 ?side2 A8.out).mono ?_); (case side1 => exact Kd.C_below HR181_3.out (by repeat (first | (with_reducible first | exact HB.out | apply below_alloc | apply pw_below_drewN | apply below_drew1 | refine below_set ?_ GE182.out) | exact HB.out))); (case side2 => exact HC181_3.out); rintro e w15 ⟨rfl, hb⟩; refine ⟨_, rfl, ?_⟩; have n0_ := Aside0.mk (Kd.RM_below (by (with_reducible repeat (first | apply Kd.RM_alloc | apply Kd.RM_drewN | apply Kd.RM_drew)); exact (Kd.RM_mono (Kd.RM_far (p := ⟨gb182, 3, none⟩) (Kd.RM_far (p := ⟨gb182, 2, none⟩) (Kd.RM_far (p := ⟨gb182, 1, none⟩) (Kd.RM_far (p := ⟨gb182, 0, none⟩) (Kd.RM_types HO_3.out BK182.out (by decide)) (fun _ hk => hk.2) (.int .i64 ((rd_T62 l0 x13_1).f0))) (fun _ hk => hk.2) (.int .i64 ((rd_T62 l0 x13_1).f1))) (fun _ hk => hk.2) (.int .i64 ((rd_T62 l0 x13_1).f2))) (fun _ hk => hk.2) (.slice A181_3 ((rd_T62 l0 x13_1).f3).length c181_3)) (fun _ h_ => h_.1))) hb); have n1_ := Aside0.mk (blk_below (g := gb182) (o := .cells #[.int .i64 ((rd_T62 l0 x13_1).f0), .int .i64 ((rd_T62 l0 x13_1).f1), .int .i64 ((rd_T62 l0 x13_1).f2), .slice A181_3 ((rd_T62 l0 x13_1).f3).length c181_3] 62 (0, 0)) (by (with_reducible repeat (first | refine blk_drewN ?_ _ | refine blk_drew ?_ | refine blk_alloc ?_ _)); refine blk_put (cs := #[.int .i64 ((rd_T62 l0 x13_1).f0), .int .i64 ((rd_T62 l0 x13_1).f1), .int .i64 ((rd_T62 l0 x13_1).f2), .slice none 0 0]) ?_ 3 _ rfl; (with_reducible repeat (first | refine blk_drewN ?_ _ | refine blk_drew ?_ | refine blk_alloc ?_ _)); refine blk_put (cs := #[.int .i64 ((rd_T62 l0 x13_1).f0), .int .i64 ((rd_T62 l0 x13_1).f1), .int .i64 0, .slice none 0 0]) ?_ 2 _ rfl; (with_reducible repeat (first | refine blk_drewN ?_ _ | refine blk_drew ?_ | refine blk_alloc ?_ _)); refine blk_put (cs := #[.int .i64 ((rd_T62 l0 x13_1).f0), .int .i64 0, .int .i64 0, .slice none 0 0]) ?_ 1 _ rfl; (with_reducible repeat (first | refine blk_drewN ?_ _ | refine blk_drew ?_ | refine blk_alloc ?_ _)); refine blk_put (cs := #[.int .i64 0, .int .i64 0, .int .i64 0, .slice none 0 0]) ?_ 0 _ rfl; (with_reducible repeat (first | refine blk_drewN ?_ _ | refine blk_drew ?_ | refine blk_alloc ?_ _)); exact BK182.out) hb); have n2_ := Aside0.mk (below_step (by repeat (first | (with_reducible first | exact HB.out | apply below_alloc | apply pw_below_drewN | apply below_drew1 | refine below_set ?_ GE182.out) | exact HB.out)) hb); clear HO_3; clear BK182; clear HB; have HO_3 := n0_; have BK182 := n1_; have HB := n2_; clear n0_ n1_ n2_; (try clear hb); (try clear hb2); (try clear hk); (try clear hi); have hcz16_0 : w15.cell? ⟨gb182, 0, none⟩ = some (.int .i64 ((rd_T62 l0 x13_1).f0)) := (blk_cell BK182.out 0).trans rfl; have hcz16_1 : w15.cell? ⟨gb182, 1, none⟩ = some (.int .i64 ((rd_T62 l0 x13_1).f1)) := (blk_cell BK182.out 1).trans rfl; have hcz16_2 : w15.cell? ⟨gb182, 2, none⟩ = some (.int .i64 ((rd_T62 l0 x13_1).f2)) := (blk_cell BK182.out 2).trans rfl; have hcz16_3 : w15.cell? ⟨gb182, 3, none⟩ = some (.slice A181_3 ((rd_T62 l0 x13_1).f3).length c181_3) := (blk_cell BK182.out 3).trans rfl; have hfz16_0 := blk_frozen BK182.out 0; have hfz16_1 := blk_frozen BK182.out 1; have hfz16_2 := blk_frozen BK182.out 2; have hfz16_3 := blk_frozen BK182.out 3) | ((with_reducible refine gate_builtin (b := .append) (xs := #[.tmp 20, .tmp 24]) rfl ?_); at_builtin; refine Kd.RM_append (Kd.int .u8) (w0 := w) w.heap.size rfl (.tmp 20) (.tmp 24) 22 5 (.int .u8 0) 1 rfl Try.underlying22 info5 rfl (by decide) (by omega) u3 x3_1 (((rd_T62 l0 x13_1).f0) % 256) [.int .u8 (((rd_T62 l0 x13_1).f0) % 256)] (fun _ => True) (fun _ => False) rfl rfl ?aP (fun _ hk => hk.elim) ?aF ?aO ?aB ?aS ?aL ?_; (case aP => exact rfl); (case aB => exact (by repeat (first | (with_reducible first | exact HB.out | apply below_alloc | apply pw_below_drewN | apply below_drew1 | refine below_set ?_ GE182.out) | exact HB.out))); (case aF => exact (fun _ _ => trivial)); (case aO => exact (by (with_reducible repeat (first | apply Kd.RM_alloc | apply Kd.RM_drewN | apply Kd.RM_drew)); exact HO_3.out)); (case aS => exact (below_size (by repeat (first | (with_reducible first | exact HB.out | apply below_alloc | apply pw_below_drewN | apply below_drew1 | refine below_set ?_ GE182.out) | exact HB.out)))); (case aL => have := LMc10.out; omega); intro v185 w17 ho hb hg hat; rw [← Ny184.out] at ho; have n0_ := Aside0.mk (blk_grown (g := gb182) (o := .cells #[.int .i64 ((rd_T62 l0 x13_1).f0), .int .i64 ((rd_T62 l0 x13_1).f1), .int .i64 ((rd_T62 l0 x13_1).f2), .slice A181_3 ((rd_T62 l0 x13_1).f3).length c181_3] 62 (0, 0)) (by (with_reducible repeat (first | refine blk_drewN ?_ _ | refine blk_drew ?_ | refine blk_alloc ?_ _)); exact BK182.out) hg (Kd.RM_ne HO_3.out BK182.out (by decide))); have n1_ := Aside0.mk (hb); have n2_ := Aside0.mk (ho); clear BK182; clear HB; clear HO_3; have BK182 := n0_; have HB := n1_; have HO186 := n2_; clear n0_ n1_ n2_; clear ho hb hg hat; have hcz18_0 : w17.cell? ⟨gb182, 0, none⟩ = some (.int .i64 ((rd_T62 l0 x13_1).f0)) := (blk_cell BK182.out 0).trans rfl; have hcz18_1 : w17.cell? ⟨gb182, 1, none⟩ = some (.int .i64 ((rd_T62 l0 x13_1).f1)) := (blk_cell BK182.out 1).trans rfl; have hcz18_2 : w17.cell? ⟨gb182, 2, none⟩ = some (.int .i64 ((rd_T62 l0 x13_1).f2)) := (blk_cell BK182.out 2).trans rfl; have hcz18_3 : w17.cell? ⟨gb182, 3, none⟩ = some (.slice A181_3 ((rd_T62 l0 x13_1).f3).length c181_3) := (blk_cell BK182.out 3).trans rfl; have hfz18_0 := blk_frozen BK182.out 0; have hfz18_1 := blk_frozen BK182.out 1; have hfz18_2 := blk_frozen BK182.out 2; have hfz18_3 := blk_frozen BK182.out 3))
                    (try simp only [Act.put, List.setIfInBounds_toArray, List.set_cons_zero, List.set_cons_succ])
                    go_cut [41] (fun v41 wc => ∃ (kq : Nat) (x41_11 : Bool), v41 = .bool x41_11 ∧ Aside0 (impl_DeltaBytes.j1 kq y184 l0 (l0.length : Int) x13_1 x41_11 ((rd_T62 l0 x13_1).f0) ((rd_T62 l0 x13_1).f1) ((rd_T62 l0 x13_1).f2) ((rd_T62 l0 x13_1).f3) = some r) ∧ Aside0 (kq ≤ k1) ∧ Aside0 (Kd.R (Kd.int .u8) 5 wc w.heap.size (fun _ => True) v185 y184) ∧ Aside0 (wc.heap[gb182]? = some (.cells #[.int .i64 ((rd_T62 l0 x13_1).f0), .int .i64 ((rd_T62 l0 x13_1).f1), .int .i64 ((rd_T62 l0 x13_1).f2), (.slice A181_3 ((rd_T62 l0 x13_1).f3).length c181_3)] 62 (0, 0))) ∧ Aside0 (Below w.heap.size w wc))
                    case first =>
                      have H := HC12.out
                      clear HC12
                      by_cases c19 : ((rd_T62 l0 x13_1).f1) < 0
                      · rw [if_pos c19] at H
                        have c19b0 : decide (((rd_T62 l0 x13_1).f1) < 0) = true := decide_eq_true c19
                        clear c19
                        (first | rw [c19b0] | (simp only [i64_w, i32_w]; rw [c19b0]) | skip)
                        have H' := Aside0.mk H
                        clear H
                        have hcz20_0 : w17.cell? ⟨gb182, 0, none⟩ = some (.int .i64 ((rd_T62 l0 x13_1).f0)) := (blk_cell BK182.out 0).trans rfl
                        have hcz20_1 : w17.cell? ⟨gb182, 1, none⟩ = some (.int .i64 ((rd_T62 l0 x13_1).f1)) := (blk_cell BK182.out 1).trans rfl
                        have hcz20_2 : w17.cell? ⟨gb182, 2, none⟩ = some (.int .i64 ((rd_T62 l0 x13_1).f2)) := (blk_cell BK182.out 2).trans rfl
                        have hcz20_3 : w17.cell? ⟨gb182, 3, none⟩ = some (.slice A181_3 ((rd_T62 l0 x13_1).f3).length c181_3) := (blk_cell BK182.out 3).trans rfl
                        have hfz20_0 := blk_frozen BK182.out 0
                        have hfz20_1 := blk_frozen BK182.out 1
                        have hfz20_2 := blk_frozen BK182.out 2
                        have hfz20_3 := blk_frozen BK182.out 3
                        go_wp2
                        go_meet
                        case rel => exact ⟨_, (true), (by first | rfl | (simp; done) | (simp [*]; done)), H', ⟨by have := HK1.out; first | omega | exact Nat.le_refl _⟩, ⟨by (with_reducible repeat (first | apply Kd.R_alloc | apply Kd.R_drewN | apply Kd.R_drew)); exact HO186.out⟩, ⟨by (with_reducible repeat (first | refine blk_drewN ?_ _ | refine blk_drew ?_ | refine blk_alloc ?_ _)); exact BK182.out⟩, ⟨by repeat (first | (with_reducible first | exact HB.out | apply below_alloc | apply pw_below_drewN | apply below_drew1 | refine below_set ?_ GE182.out) | exact HB.out)⟩⟩
                      · rw [if_neg c19] at H
                        have c19b0 : decide (((rd_T62 l0 x13_1).f1) < 0) = false := decide_eq_false c19
                        clear c19
                        (first | rw [c19b0] | (simp only [i64_w, i32_w]; rw [c19b0]) | skip)
                        by_cases c21 : ((rd_T62 l0 x13_1).f1) > 268435455
                        · rw [if_pos c21] at H
                          have c21b0 : decide (268435455 < ((rd_T62 l0 x13_1).f1)) = true := decide_eq_true c21
                          clear c21
                          have H' := Aside0.mk H
                          clear H
                          have hcz22_0 : w17.cell? ⟨gb182, 0, none⟩ = some (.int .i64 ((rd_T62 l0 x13_1).f0)) := (blk_cell BK182.out 0).trans rfl
                          have hcz22_1 : w17.cell? ⟨gb182, 1, none⟩ = some (.int .i64 ((rd_T62 l0 x13_1).f1)) := (blk_cell BK182.out 1).trans rfl
                          have hcz22_2 : w17.cell? ⟨gb182, 2, none⟩ = some (.int .i64 ((rd_T62 l0 x13_1).f2)) := (blk_cell BK182.out 2).trans rfl
                          have hcz22_3 : w17.cell? ⟨gb182, 3, none⟩ = some (.slice A181_3 ((rd_T62 l0 x13_1).f3).length c181_3) := (blk_cell BK182.out 3).trans rfl
                          have hfz22_0 := blk_frozen BK182.out 0
                          have hfz22_1 := blk_frozen BK182.out 1
                          have hfz22_2 := blk_frozen BK182.out 2
                          have hfz22_3 := blk_frozen BK182.out 3
                          go_wp2
                          go_meet
                          case rel => exact ⟨_, (true), (by first | rfl | (simp; done) | (simp [*]; done)), H', ⟨by have := HK1.out; first | omega | exact Nat.le_refl _⟩, ⟨by (with_reducible repeat (first | apply Kd.R_alloc | apply Kd.R_drewN | apply Kd.R_drew)); exact HO186.out⟩, ⟨by (with_reducible repeat (first | refine blk_drewN ?_ _ | refine blk_drew ?_ | refine blk_alloc ?_ _)); exact BK182.out⟩, ⟨by repeat (first | (with_reducible first | exact HB.out | apply below_alloc | apply pw_below_drewN | apply below_drew1 | refine below_set ?_ GE182.out) | exact HB.out)⟩⟩
                        · rw [if_neg c21] at H
                          have c21b0 : decide (268435455 < ((rd_T62 l0 x13_1).f1)) = false := decide_eq_false c21
                          clear c21
                          have H' := Aside0.mk H
                          clear H
                          have hcz23_0 : w17.cell? ⟨gb182, 0, none⟩ = some (.int .i64 ((rd_T62 l0 x13_1).f0)) := (blk_cell BK182.out 0).trans rfl
                          have hcz23_1 : w17.cell? ⟨gb182, 1, none⟩ = some (.int .i64 ((rd_T62 l0 x13_1).f1)) := (blk_cell BK182.out 1).trans rfl
                          have hcz23_2 : w17.cell? ⟨gb182, 2, none⟩ = some (.int .i64 ((rd_T62 l0 x13_1).f2)) := (blk_cell BK182.out 2).trans rfl
                          have hcz23_3 : w17.cell? ⟨gb182, 3, none⟩ = some (.slice A181_3 ((rd_T62 l0 x13_1).f3).length c181_3) := (blk_cell BK182.out 3).trans rfl
                          have hfz23_0 := blk_frozen BK182.out 0
                          have hfz23_1 := blk_frozen BK182.out 1
                          have hfz23_2 := blk_frozen BK182.out 2
                          have hfz23_3 := blk_frozen BK182.out 3
                          go_wp2
                          go_meet
                          case rel => exact ⟨_, (decide (((rd_T62 l0 x13_1).f2) > 268435455)), (by first | rfl | (simp; done) | (simp [*]; done)), H', ⟨by have := HK1.out; first | omega | exact Nat.le_refl _⟩, ⟨by (with_reducible repeat (first | apply Kd.R_alloc | apply Kd.R_drewN | apply Kd.R_drew)); exact HO186.out⟩, ⟨by (with_reducible repeat (first | refine blk_drewN ?_ _ | refine blk_drew ?_ | refine blk_alloc ?_ _)); exact BK182.out⟩, ⟨by repeat (first | (with_reducible first | exact HB.out | apply below_alloc | apply pw_below_drewN | apply below_drew1 | refine below_set ?_ GE182.out) | exact HB.out)⟩⟩
                    case rest =>
                      clear HC12
                      try clear c1
                      try clear p1
                      try clear q1
                      try clear hx1
                      try clear c2
                      try clear c2b0
                      try clear c2b1
                      try clear p2
                      try clear c3
                      try clear c5
                      try clear c5b0
                      try clear c6
                      try clear c6b0
                      try clear p6
                      try clear c7
                      try clear c7b0
                      try clear c9
                      try clear c10
                      try clear c11
                      try clear c11b0
                      try clear c11b1
                      try clear c18
                      try clear p18
                      try clear q18
                      try clear hx18
                      try clear c19
                      try clear c19b0
                      try clear c21
                      try clear c21b0
                      try clear hcz14_0
                      try clear hcz14_1
                      try clear hcz14_2
                      try clear hcz14_3
                      try clear hcz16_0
                      try clear hcz16_1
                      try clear hcz16_2
                      try clear hcz16_3
                      try clear hcz18_0
                      try clear hcz18_1
                      try clear hcz18_2
                      try clear hcz18_3
                      try clear hcz20_0
                      try clear hcz20_1
                      try clear hcz20_2
                      try clear hcz20_3
                      try clear hcz22_0
                      try clear hcz22_1
                      try clear hcz22_2
                      try clear hcz22_3
                      try clear hcz23_0
                      try clear hcz23_1
                      try clear hcz23_2
                      try clear hcz23_3
                      try clear hfz14_0
                      try clear hfz14_1
                      try clear hfz14_2
                      try clear hfz14_3
                      try clear hfz16_0
                      try clear hfz16_1
                      try clear hfz16_2
                      try clear hfz16_3
                      try clear hfz18_0
                      try clear hfz18_1
                      try clear hfz18_2
                      try clear hfz18_3
                      try clear hfz20_0
                      try clear hfz20_1
                      try clear hfz20_2
                      try clear hfz20_3
                      try clear hfz22_0
                      try clear hfz22_1
                      try clear hfz22_2
                      try clear hfz22_3
                      try clear hfz23_0
                      try clear hfz23_1
                      try clear hfz23_2
                      try clear hfz23_3
                      try clear hx181_0
                      try clear hx181_1
                      try clear hx181_2
                      try clear hx181_3
                      try clear p181
                      try clear p2
                      try clear q181
                      obtain ⟨kq, x41_11, rfl, HA, HJ11, HO_3, BK182, HB⟩ := hcut
                      cases kq with
                      | zero => exact absurd HA.out (by simp [impl_DeltaBytes.j1])
                      | succ kj11 =>
                        have H := HA.out
                        clear HA
                        simp only [impl_DeltaBytes.j1] at H
                        by_cases c24 : x41_11 = true
                        · subst c24
                          have H1 : (some ([] : List Int)) = some r := by rw [if_pos rfl] at H; exact H
                          clear H
                          have H := H1
                          clear H1
                          obtain rfl := Option.some.inj H
                          go_wp2
                          go_ret
                          exact ⟨_, by first | rfl | (simp [errW_none, errW_some] <;> rfl) | (simp [*, errW_none, errW_some] <;> rfl), Kd.RM_of (Kd.R_nil _ _ _ _ _), by repeat (first | (with_reducible first | exact HB.out | apply below_alloc | apply pw_below_drewN | apply below_drew1 | refine below_set ?_ GE182.out) | exact HB.out)⟩
                        · replace c24 := Bool.eq_false_iff.mpr c24
                          subst c24
                          have H1 : ((impl_putSeven.f kj11 y184 ((rd_T62 l0 x13_1).f1)).bind fun t187 => ((impl_putSeven.f kj11 t187 ((rd_T62 l0 x13_1).f2)).bind fun t190 => (impl_DeltaBytes.l0 kj11 t190 l0 (l0.length : Int) (wrap64 (x13_1 + 1))))) = some r := by rw [if_neg (show ¬ (false = true) by decide)] at H; exact H
                          clear H
                          have H := H1
                          clear H1
                          replace H := Option.bind_eq_some_iff.mp H
                          obtain ⟨t187, A250, H⟩ := H
                          replace H : ((impl_putSeven.f kj11 t187 ((rd_T62 l0 x13_1).f2)).bind fun t190 => (impl_DeltaBytes.l0 kj11 t190 l0 (l0.length : Int) (wrap64 (x13_1 + 1)))) = some r := H
                          have A25 := Aside0.mk A250
                          clear A250
                          replace H := Option.bind_eq_some_iff.mp H
                          obtain ⟨t190, A260, H⟩ := H
                          replace H : (impl_DeltaBytes.l0 kj11 t190 l0 (l0.length : Int) (wrap64 (x13_1 + 1))) = some r := H
                          have A26 := Aside0.mk A260
                          clear A260
                          have H' := Aside0.mk H
                          clear H
                          try go_wp2
                          have n0_ := Aside0.mk (Kd.R_drew HO_3.out)
                          have n1_ := Aside0.mk (blk_drew BK182.out)
                          have n2_ := Aside0.mk (below_drew1 HB.out)
                          clear HO_3
                          clear BK182
                          clear HB
                          have HO_3 := n0_
                          have BK182 := n1_
                          have HB := n2_
                          clear n0_ n1_ n2_
                          obtain ⟨Ao28, co28, eo28⟩ := Kd.R_slice HO_3.out
                          (first | subst eo28 | (injection eo28 with f1_ f2_ f3_; have f4_ := f1_.symm; have f5_ := f3_.symm; clear f1_ f2_ f3_; subst f4_; subst f5_))
                          refine start_ (n := 8) (S := fun w' => w'.cell? ⟨gb182, 0, none⟩ = some (.int .i64 ((rd_T62 l0 x13_1).f0)) ∧ w'.cell? ⟨gb182, 1, none⟩ = some (.int .i64 ((rd_T62 l0 x13_1).f1)) ∧ w'.cell? ⟨gb182, 2, none⟩ = some (.int .i64 ((rd_T62 l0 x13_1).f2)) ∧ w'.cell? ⟨gb182, 3, none⟩ = some (.slice A181_3 ((rd_T62 l0 x13_1).f3).length c181_3)) (ds := []) #[false, false, false, false, false, false, false, false] (by kernel_rfl) rfl rfl ⟨(blk_cell BK182.out 0).trans rfl, (blk_cell BK182.out 1).trans rfl, (blk_cell BK182.out 2).trans rfl, (blk_cell BK182.out 3).trans rfl⟩ (fun hHeld => ?_); refine with_tabW impl_DeltaBytes.tab13 impl_DeltaBytes.bits13 (fun HT_ HW_ => ?_)
                          generalize wc.drew = w27 at HO_3 BK182 HB hHeld ⊢
                          refine pure_ (i := 0) (N := some 42) (v := ?_) (a' := ?_) #[true, false, false, false, false, false, false, false] rfl rfl (any_of HT_.out (by kernel_rfl)) (fun _ _ _ h => h) (Or.inl ⟨by rfl, ?_⟩) ?_ ?_
                          rotate_left
                          · intro w'
                            go_simp
                            with_reducible rfl
                          rotate_left
                          · simp only [Act.put, List.setIfInBounds_toArray, List.set_cons_zero, List.set_cons_succ, i64_w, i32_w]
                            rfl
                          refine pure_ (i := 1) (N := some 43) (v := ?_) (a' := ?_) #[true, true, false, false, false, false, false, false] rfl rfl (any_of HT_.out (by kernel_rfl)) (fun _ _ _ h => h) (Or.inl ⟨by rfl, ?_⟩) ?_ ?_
                          rotate_left
                          · intro w'
                            go_simp
                            with_reducible rfl
                          rotate_left
                          · simp only [Act.put, List.setIfInBounds_toArray, List.set_cons_zero, List.set_cons_succ, i64_w, i32_w]
                            rfl
                          refine pure_ (i := 4) (N := some 46) (v := ?_) (a' := ?_) #[true, true, false, false, true, false, false, false] rfl rfl (any_of HT_.out (by kernel_rfl)) (fun _ _ _ h => h) (Or.inl ⟨by rfl, ?_⟩) ?_ ?_
                          rotate_left
                          · intro w'
                            go_simp
                            with_reducible rfl
                          rotate_left
                          · simp only [Act.put, List.setIfInBounds_toArray, List.set_cons_zero, List.set_cons_succ, i64_w, i32_w]
                            rfl
                          refine take_ (i := 2) (N := some 44) (v := ?_) (a' := ?_) #[true, true, true, false, true, false, false, false] rfl rfl (take_ofW HT_.out HW_.out (by kernel_rfl)) (fun _ _ _ h => h) (Or.inl ⟨by rfl, ?_⟩) hHeld ?_ ?_
                          rotate_left
                          · rintro w' ⟨s0, s1, s2, s3⟩
                            go_simp
                            with_reducible rfl
                          rotate_left
                          · simp only [Act.put, List.setIfInBounds_toArray, List.set_cons_zero, List.set_cons_succ, i64_w, i32_w]
                            rfl
                          refine take_ (i := 5) (N := some 47) (v := ?_) (a' := ?_) #[true, true, true, false, true, true, false, false] rfl rfl (take_ofW HT_.out HW_.out (by kernel_rfl)) (fun _ _ _ h => h) (Or.inl ⟨by rfl, ?_⟩) hHeld ?_ ?_
                          rotate_left
                          · rintro w' ⟨s0, s1, s2, s3⟩
                            go_simp
                            with_reducible rfl
                          rotate_left
                          · simp only [Act.put, List.setIfInBounds_toArray, List.set_cons_zero, List.set_cons_succ, i64_w, i32_w]
                            rfl
                          refine one_ (i := 3) (N := some 45) #[true, true, true, true, true, true, false, false] rfl rfl (one_of HT_.out (by kernel_rfl)) (by decide) (fun K hK => ?_)
                          refine goes_ Try.func54 (by kernel_rfl) rfl #[.slice Ao28 y184.length co28, .int .i64 ((rd_T62 l0 x13_1).f1)] (by rfl) rfl rfl (by (try simp only [List.map_toArray, List.map_cons, List.map_nil]); first | done | rfl | (simp only [List.length_drop, List.length_take]; rfl)) ?_
                          with_reducible refine (impl_putSeven.calls kj11 (fun k_ => some k_ = (.slice Ao28 y184.length co28 : Value).ownBlock) (.slice Ao28 y184.length co28) y184 ((rd_T62 l0 x13_1).f1) t187 w _ ?side1 ?side2 A25.out).mono ?_
                          (case side1 => repeat (first | (with_reducible first | exact HB.out | apply below_alloc | apply pw_below_drewN | apply below_drew1 | refine below_set ?_ GE182.out) | exact HB.out))
                          (case side2 => exact Kd.R_tight rfl HO_3.out)
                          rintro e w29 ⟨v188, rfl, ho0, hb, hkp⟩
                          refine ⟨_, rfl, ?_⟩
                          have n0_ := Aside0.mk (blk_kept (by (with_reducible repeat (first | refine blk_drewN ?_ _ | refine blk_drew ?_ | refine blk_alloc ?_ _)); exact BK182.out) hkp (fun hs_ => (fun e_ => (Kd.R_ne HO_3.out BK182.out (by decide)) e_) hs_))
                          have n1_ := Aside0.mk (Kd.R_mono (ok' := fun k_ => True) ho0 (fun k_ hk_ => trivial))
                          have n2_ := Aside0.mk (hb)
                          clear BK182
                          clear HB
                          clear HO_3
                          have BK182 := n0_
                          have HO189 := n1_
                          have HB := n2_
                          clear n0_ n1_ n2_
                          (try clear hb)
                          (try clear hkp)
                          (try clear ho0)
                          obtain ⟨Ao30, co30, eo30⟩ := Kd.R_slice HO189.out
                          (first | subst eo30 | (injection eo30 with f1_ f2_ f3_; have f4_ := f1_.symm; have f5_ := f3_.symm; clear f1_ f2_ f3_; subst f4_; subst f5_))
                          refine hK.out _ _ ⟨(blk_cell BK182.out 0).trans rfl, (blk_cell BK182.out 1).trans rfl, (blk_cell BK182.out 2).trans rfl, (blk_cell BK182.out 3).trans rfl⟩ (fun hHeld => ?_)
                          clear hK K
                          refine norm_ (a' := ?_) ?_ ?_
                          rotate_left
                          · show Act.put _ (some 45) _ = _
                            simp only [Act.put, List.setIfInBounds_toArray, List.set_cons_zero, List.set_cons_succ, i64_w, i32_w]
                            rfl
                          refine one_ (i := 6) (N := some 48) #[true, true, true, true, true, true, true, false] rfl rfl (one_of HT_.out (by kernel_rfl)) (by decide) (fun K hK => ?_)
                          refine goes_ Try.func54 (by kernel_rfl) rfl #[.slice Ao30 t187.length co30, .int .i64 ((rd_T62 l0 x13_1).f2)] (by rfl) rfl rfl (by (try simp only [List.map_toArray, List.map_cons, List.map_nil]); first | done | rfl | (simp only [List.length_drop, List.length_take]; rfl)) ?_
                          with_reducible refine (impl_putSeven.calls kj11 (fun k_ => some k_ = (.slice Ao30 t187.length co30 : Value).ownBlock) (.slice Ao30 t187.length co30) t187 ((rd_T62 l0 x13_1).f2) t190 w _ ?side1 ?side2 A26.out).mono ?_
                          (case side1 => repeat (first | (with_reducible first | exact HB.out | apply below_alloc | apply pw_below_drewN | apply below_drew1 | refine below_set ?_ GE182.out) | exact HB.out))
                          (case side2 => exact Kd.R_tight rfl HO189.out)
                          rintro e w31 ⟨v191, rfl, ho0, hb, hkp⟩
                          refine ⟨_, rfl, ?_⟩
                          have n0_ := Aside0.mk (blk_kept (by (with_reducible repeat (first | refine blk_drewN ?_ _ | refine blk_drew ?_ | refine blk_alloc ?_ _)); exact BK182.out) hkp (fun hs_ => (fun e_ => (Kd.R_ne HO189.out BK182.out (by decide)) e_) hs_))
                          have n1_ := Aside0.mk (Kd.R_mono (ok' := fun k_ => True) ho0 (fun k_ hk_ => trivial))
                          have n2_ := Aside0.mk (hb)
                          clear BK182
                          clear HB
                          clear HO189
                          have BK182 := n0_
                          have HO192 := n1_
                          have HB := n2_
                          clear n0_ n1_ n2_
                          (try clear hb)
                          (try clear hkp)
                          (try clear ho0)
                          refine hK.out _ _ ⟨(blk_cell BK182.out 0).trans rfl, (blk_cell BK182.out 1).trans rfl, (blk_cell BK182.out 2).trans rfl, (blk_cell BK182.out 3).trans rfl⟩ (fun hHeld => ?_)
                          clear hK K
                          refine norm_ (a' := ?_) ?_ ?_
                          rotate_left
                          · show Act.put _ (some 48) _ = _
                            simp only [Act.put, List.setIfInBounds_toArray, List.set_cons_zero, List.set_cons_succ, i64_w, i32_w]
                            rfl
                          refine pure_ (i := 7) (N := some 3) (v := ?_) (a' := ?_) #[true, true, true, true, true, true, true, true] rfl rfl (any_of HT_.out (by kernel_rfl)) (fun _ _ _ h => h) (Or.inl ⟨by rfl, ?_⟩) ?_ ?_
                          rotate_left
                          · intro w'
                            go_simp
                            with_reducible rfl
                          rotate_left
                          · simp only [Act.put, List.setIfInBounds_toArray, List.set_cons_zero, List.set_cons_succ, i64_w, i32_w]
                            rfl
                          refine done_ (done_of HT_.out (by kernel_rfl)) ?_
                          try go_wp2
                          go_roundg kj11
                          case measure => have := HK1.out; have := HJ11.out; omega
                          case rel => exact ⟨(t190), (wrap64 (x13_1 + 1)), (by first | rfl | (simp; done) | (simp [*]; done)), H', ⟨by have := HK1.out; have := HJ11.out; omega⟩, ⟨Kd.RM_of (by (with_reducible repeat (first | apply Kd.R_alloc | apply Kd.R_drewN | apply Kd.R_drew)); exact HO192.out)⟩, ⟨by repeat (first | (with_reducible first | exact HB.out | apply below_alloc | apply pw_below_drewN | apply below_drew1 | refine below_set ?_ GE182.out) | exact HB.out)⟩⟩
                  · rw [if_neg c11] at H
                    have c11b0 : (((rd_T62 l0 x13_1).f0) == 1) = false := beq_eq_false_iff_ne.mpr c11
                    have c11b1 : (((rd_T62 l0 x13_1).f0) != 1) = true := bne_iff_ne.mpr c11
                    replace H := Option.bind_eq_some_iff.mp H
                    obtain ⟨t193, A320, H⟩ := H
                    replace H : (if t193.length + ((rd_T62 l0 x13_1).f3).length < 140737488355328 then (impl_DeltaBytes.l0 k1 (t193 ++ ((rd_T62 l0 x13_1).f3)) l0 (l0.length : Int) (wrap64 (x13_1 + 1))) else (none)) = some r := H
                    have A32 := Aside0.mk A320
                    clear A320
                    by_cases c33 : t193.length + ((rd_T62 l0 x13_1).f3).length < 140737488355328
                    · rw [if_pos c33] at H
                      have LMc33 := Aside0.mk c33
                      clear c33
                      obtain ⟨y196, hy196⟩ : ∃ y_ : List Int, y_ = (t193 ++ ((rd_T62 l0 x13_1).f3)) := ⟨_, rfl⟩
                      replace H : (impl_DeltaBytes.l0 k1 y196 l0 (l0.length : Int) (wrap64 (x13_1 + 1))) = some r := by first | (rw [hy196]; with_reducible exact H) | (have H2_ := (Option.bind_some _ _).symm.trans H; rw [hy196]; with_reducible exact H2_) | (have H2_ := (Option.bind_some _ _).symm.trans H; with_reducible exact H2_) | with_reducible exact H | (rw [hy196]; exact H) | exact H
                      have Ny196 := Aside0.mk hy196
                      clear hy196
                      have H' := Aside0.mk H
                      clear H
                      have p181 : 0 ≤ (x13_1 : Int) := of_decide_eq_true (by first | (with_reducible assumption) | assumption)
                      have q181 : x13_1 < (l0.length : Int) := of_decide_eq_true (by first | (with_reducible assumption) | assumption)
                      obtain ⟨ad181, A181_3, c181_3, e181, hx181_0, hx181_1, hx181_2, hx181_3, hl181_3, hi181_3⟩ := at_T62 HR0.out x13_1 p181 q181
                      cases e181
                      try (replace hx181_0 := (HB.out.cell (World.block_lt_of_cell? w _ hx181_0)).trans hx181_0)
                      try (replace hx181_1 := (HB.out.cell (World.block_lt_of_cell? w _ hx181_1)).trans hx181_1)
                      try (replace hx181_2 := (HB.out.cell (World.block_lt_of_cell? w _ hx181_2)).trans hx181_2)
                      try (replace hx181_3 := (HB.out.cell (World.block_lt_of_cell? w _ hx181_3)).trans hx181_3)
                      have HR181_3 := Aside0.mk hi181_3
                      have HC181_3 := Aside0.mk hl181_3
                      clear hi181_3 hl181_3
                      replace p181 := eq_true p181
                      replace q181 := eq_true q181
                      try go_wp2_with (first | ((with_reducible refine gate_dst (N := 5) rfl ?_); refine box_event ?hg (N := 5) ?hd (cs := #[.int .i64 0, .int .i64 0, .int .i64 0, .slice none 0 0]) (t := 62) ?hr ?_; (case hd => rfl); (case hg => rfl); (case hr => first | (go_simp; done) | (go_simp; rfl)); intro gb182 hg w34 hbox hb; have n0_ := Aside0.mk (Kd.RM_below (by (with_reducible repeat (first | apply Kd.RM_alloc | apply Kd.RM_drewN | apply Kd.RM_drew)); exact HO_3.out) hb); have n1_ := Aside0.mk (below_step (by repeat (first | (with_reducible first | exact HB.out | apply below_alloc | apply pw_below_drewN | apply below_drew1) | exact HB.out)) hb); have n2_ := Aside0.mk (hbox); have n3_ := Aside0.mk ((by rw [hg]; exact (below_size (by repeat (first | (with_reducible first | exact HB.out | apply below_alloc | apply pw_below_drewN | apply below_drew1) | exact HB.out))) : w.heap.size ≤ gb182)); have n4_ := Aside0.mk ((by rw [hg]; exact (below_size (by repeat (first | (with_reducible first | exact HB.out | apply below_alloc | apply pw_below_drewN | apply below_drew1) | exact HB.out))) : w.heap.size ≤ gb182)); clear HO_3; clear HB; have HO_3 := n0_; have HB := n1_; have BK182 := n2_; have GW182 := n3_; have GE182 := n4_; clear n0_ n1_ n2_ n3_ n4_; clear hb hbox hg; have hcz35_0 : w34.cell? ⟨gb182, 0, none⟩ = some (.int .i64 0) := (blk_cell BK182.out 0).trans rfl; have hcz35_1 : w34.cell? ⟨gb182, 1, none⟩ = some (.int .i64 0) := (blk_cell BK182.out 1).trans rfl; have hcz35_2 : w34.cell? ⟨gb182, 2, none⟩ = some (.int .i64 0) := (blk_cell BK182.out 2).trans rfl; have hcz35_3 : w34.cell? ⟨gb182, 3, none⟩ = some (.slice none 0 0) := (blk_cell BK182.out 3).trans rfl; have hfz35_0 := blk_frozen BK182.out 0; have hfz35_1 := blk_frozen BK182.out 1; have hfz35_2 := blk_frozen BK182.out 2; have hfz35_3 := blk_frozen BK182.out 3) | ((with_reducible refine gate_callee (f := 52) rfl ?_); refine goesL_ (some 18) rfl rfl Try.func52 (by kernel_rfl) rfl #[.agg #[.int .i64 ((rd_T62 l0 x13_1).f0), .int .i64 ((rd_T62 l0 x13_1).f1), .int .i64 ((rd_T62 l0 x13_1).f2), .slice A181_3 ((rd_T62 l0 x13_1).f3).length c181_3]] rfl (by (try simp only [List.map_toArray, List.map_cons, List.map_nil]); first | done | rfl | (simp only [List.length_drop, List.length_take]; rfl)) ?_; (with_reducible refine (impl_stepOk.calls ((rd_T62 l0 x13_1).f0) ((rd_T62 l0 x13_1).f1) ((rd_T62 l0 x13_1).f2) _ _ ((rd_T62 l0 x13_1).f3) true _ ?side1 ?side2 A8.out).mono ?_); (case side1 => exact Kd.C_below HR181_3.out (by repeat (first | (with_reducible first | exact HB.out | apply below_alloc | apply pw_below_drewN | apply below_drew1 | refine below_set ?_ GE182.out) | exact HB.out))); (case side2 => exact HC181_3.out); rintro e w36 ⟨rfl, hb⟩; refine ⟨_, rfl, ?_⟩; have n0_ := Aside0.mk (Kd.RM_below (by (with_reducible repeat (first | apply Kd.RM_alloc | apply Kd.RM_drewN | apply Kd.RM_drew)); exact (Kd.RM_mono (Kd.RM_far (p := ⟨gb182, 3, none⟩) (Kd.RM_far (p := ⟨gb182, 2, none⟩) (Kd.RM_far (p := ⟨gb182, 1, none⟩) (Kd.RM_far (p := ⟨gb182, 0, none⟩) (Kd.RM_types HO_3.out BK182.out (by decide)) (fun _ hk => hk.2) (.int .i64 ((rd_T62 l0 x13_1).f0))) (fun _ hk => hk.2) (.int .i64 ((rd_T62 l0 x13_1).f1))) (fun _ hk => hk.2) (.int .i64 ((rd_T62 l0 x13_1).f2))) (fun _ hk => hk.2) (.slice A181_3 ((rd_T62 l0 x13_1).f3).length c181_3)) (fun _ h_ => h_.1))) hb); have n1_ := Aside0.mk (blk_below (g := gb182) (o := .cells #[.int .i64 ((rd_T62 l0 x13_1).f0), .int .i64 ((rd_T62 l0 x13_1).f1), .int .i64 ((rd_T62 l0 x13_1).f2), .slice A181_3 ((rd_T62 l0 x13_1).f3).length c181_3] 62 (0, 0)) (by (with_reducible repeat (first | refine blk_drewN ?_ _ | refine blk_drew ?_ | refine blk_alloc ?_ _)); refine blk_put (cs := #[.int .i64 ((rd_T62 l0 x13_1).f0), .int .i64 ((rd_T62 l0 x13_1).f1), .int .i64 ((rd_T62 l0 x13_1).f2), .slice none 0 0]) ?_ 3 _ rfl; (with_reducible repeat (first | refine blk_drewN ?_ _ | refine blk_drew ?_ | refine blk_alloc ?_ _)); refine blk_put (cs := #[.int .i64 ((rd_T62 l0 x13_1).f0), .int .i64 ((rd_T62 l0 x13_1).f1), .int .i64 0, .slice none 0 0]) ?_ 2 _ rfl; (with_reducible repeat (first | refine blk_drewN ?_ _ | refine blk_drew ?_ | refine blk_alloc ?_ _)); refine blk_put (cs := #[.int .i64 ((rd_T62 l0 x13_1).f0), .int .i64 0, .int .i64 0, .slice none 0 0]) ?_ 1 _ rfl; (with_reducible repeat (first | refine blk_drewN ?_ _ | refine blk_drew ?_ | refine blk_alloc ?_ _)); refine blk_put (cs := #[.int .i64 0, .int .i64 0, .int .i64 0, .slice none 0 0]) ?_ 0 _ rfl; (with_reducible repeat (first | refine blk_drewN ?_ _ | refine blk_drew ?_ | refine blk_alloc ?_ _)); exact BK182.out) hb); have n2_ := Aside0.mk (below_step (by repeat (first | (with_reducible first | exact HB.out | apply below_alloc | apply pw_below_drewN | apply below_drew1 | refine below_set ?_ GE182.out) | exact HB.out)) hb); clear HO_3; clear BK182; clear HB; have HO_3 := n0_; have BK182 := n1_; have HB := n2_; clear n0_ n1_ n2_; (try clear hb); (try clear hb2); (try clear hk); (try clear hi); have hcz37_0 : w36.cell? ⟨gb182, 0, none⟩ = some (.int .i64 ((rd_T62 l0 x13_1).f0)) := (blk_cell BK182.out 0).trans rfl; have hcz37_1 : w36.cell? ⟨gb182, 1, none⟩ = some (.int .i64 ((rd_T62 l0 x13_1).f1)) := (blk_cell BK182.out 1).trans rfl; have hcz37_2 : w36.cell? ⟨gb182, 2, none⟩ = some (.int .i64 ((rd_T62 l0 x13_1).f2)) := (blk_cell BK182.out 2).trans rfl; have hcz37_3 : w36.cell? ⟨gb182, 3, none⟩ = some (.slice A181_3 ((rd_T62 l0 x13_1).f3).length c181_3) := (blk_cell BK182.out 3).trans rfl; have hfz37_0 := blk_frozen BK182.out 0; have hfz37_1 := blk_frozen BK182.out 1; have hfz37_2 := blk_frozen BK182.out 2; have hfz37_3 := blk_frozen BK182.out 3) | ((with_reducible refine gate_builtin (b := .append) (xs := #[.tmp 20, .tmp 24]) rfl ?_); at_builtin; refine Kd.RM_append (Kd.int .u8) (w0 := w) w.heap.size rfl (.tmp 20) (.tmp 24) 22 5 (.int .u8 0) 1 rfl Try.underlying22 info5 rfl (by decide) (by omega) u3 x3_1 (((rd_T62 l0 x13_1).f0) % 256) [.int .u8 (((rd_T62 l0 x13_1).f0) % 256)] (fun _ => True) (fun _ => False) rfl rfl ?aP (fun _ hk => hk.elim) ?aF ?aO ?aB ?aS ?aL ?_; (case aP => exact rfl); (case aB => exact (by repeat (first | (with_reducible first | exact HB.out | apply below_alloc | apply pw_below_drewN | apply below_drew1 | refine below_set ?_ GE182.out) | exact HB.out))); (case aF => exact (fun _ _ => trivial)); (case aO => exact (by (with_reducible repeat (first | apply Kd.RM_alloc | apply Kd.RM_drewN | apply Kd.RM_drew)); exact HO_3.out)); (case aS => exact (below_size (by repeat (first | (with_reducible first | exact HB.out | apply below_alloc | apply pw_below_drewN | apply below_drew1 | refine below_set ?_ GE182.out) | exact HB.out)))); (case aL => have := LMc10.out; omega); intro v185 w38 ho hb hg hat; rw [← Ny184.out] at ho; have n0_ := Aside0.mk (blk_grown (g := gb182) (o := .cells #[.int .i64 ((rd_T62 l0 x13_1).f0), .int .i64 ((rd_T62 l0 x13_1).f1), .int .i64 ((rd_T62 l0 x13_1).f2), .slice A181_3 ((rd_T62 l0 x13_1).f3).length c181_3] 62 (0, 0)) (by (with_reducible repeat (first | refine blk_drewN ?_ _ | refine blk_drew ?_ | refine blk_alloc ?_ _)); exact BK182.out) hg (Kd.RM_ne HO_3.out BK182.out (by decide))); have n1_ := Aside0.mk (hb); have n2_ := Aside0.mk (ho); clear BK182; clear HB; clear HO_3; have BK182 := n0_; have HB := n1_; have HO186 := n2_; clear n0_ n1_ n2_; clear ho hb hg hat; have hcz39_0 : w38.cell? ⟨gb182, 0, none⟩ = some (.int .i64 ((rd_T62 l0 x13_1).f0)) := (blk_cell BK182.out 0).trans rfl; have hcz39_1 : w38.cell? ⟨gb182, 1, none⟩ = some (.int .i64 ((rd_T62 l0 x13_1).f1)) := (blk_cell BK182.out 1).trans rfl; have hcz39_2 : w38.cell? ⟨gb182, 2, none⟩ = some (.int .i64 ((rd_T62 l0 x13_1).f2)) := (blk_cell BK182.out 2).trans rfl; have hcz39_3 : w38.cell? ⟨gb182, 3, none⟩ = some (.slice A181_3 ((rd_T62 l0 x13_1).f3).length c181_3) := (blk_cell BK182.out 3).trans rfl; have hfz39_0 := blk_frozen BK182.out 0; have hfz39_1 := blk_frozen BK182.out 1; have hfz39_2 := blk_frozen BK182.out 2; have hfz39_3 := blk_frozen BK182.out 3))
                      have n0_ := Aside0.mk (Kd.R_drew HO186.out)
                      have n1_ := Aside0.mk (blk_drew BK182.out)
                      have n2_ := Aside0.mk (below_drew1 HB.out)
                      clear HO186
                      clear BK182
                      clear HB
                      have HO186 := n0_
                      have BK182 := n1_
                      have HB := n2_
                      clear n0_ n1_ n2_
                      obtain ⟨Ao41, co41, eo41⟩ := Kd.R_slice HO186.out
                      (first | subst eo41 | (injection eo41 with f1_ f2_ f3_; have f4_ := f1_.symm; have f5_ := f3_.symm; clear f1_ f2_ f3_; subst f4_; subst f5_))
                      refine start_ (n := 9) (S := fun w' => w'.cell? ⟨gb182, 0, none⟩ = some (.int .i64 ((rd_T62 l0 x13_1).f0)) ∧ w'.cell? ⟨gb182, 1, none⟩ = some (.int .i64 ((rd_T62 l0 x13_1).f1)) ∧ w'.cell? ⟨gb182, 2, none⟩ = some (.int .i64 ((rd_T62 l0 x13_1).f2)) ∧ w'.cell? ⟨gb182, 3, none⟩ = some (.slice A181_3 ((rd_T62 l0 x13_1).f3).length c181_3)) (ds := []) #[false, false, false, false, false, false, false, false, false] (by kernel_rfl) rfl rfl ⟨(blk_cell BK182.out 0).trans rfl, (blk_cell BK182.out 1).trans rfl, (blk_cell BK182.out 2).trans rfl, (blk_cell BK182.out 3).trans rfl⟩ (fun hHeld => ?_); refine with_tabW impl_DeltaBytes.tab14 impl_DeltaBytes.bits14 (fun HT_ HW_ => ?_)
                      generalize w38.drew = w40 at HO186 BK182 HB hHeld ⊢
                      refine pure_ (i := 0) (N := some 49) (v := ?_) (a' := ?_) #[true, false, false, false, false, false, false, false, false] rfl rfl (any_of HT_.out (by kernel_rfl)) (fun _ _ _ h => h) (Or.inl ⟨by rfl, ?_⟩) ?_ ?_
                      rotate_left
                      · intro w'
                        go_simp
                        with_reducible rfl
                      rotate_left
                      · simp only [Act.put, List.setIfInBounds_toArray, List.set_cons_zero, List.set_cons_succ, i64_w, i32_w]
                        rfl
                      refine pure_ (i := 1) (N := some 50) (v := ?_) (a' := ?_) #[true, true, false, false, false, false, false, false, false] rfl rfl (any_of HT_.out (by kernel_rfl)) (fun _ _ _ h => h) (Or.inl ⟨by rfl, ?_⟩) ?_ ?_
                      rotate_left
                      · intro w'
                        go_simp
                        with_reducible rfl
                      rotate_left
                      · simp only [Act.put, List.setIfInBounds_toArray, List.set_cons_zero, List.set_cons_succ, i64_w, i32_w]
                        rfl
                      refine pure_ (i := 5) (N := some 54) (v := ?_) (a' := ?_) #[true, true, false, false, false, true, false, false, false] rfl rfl (any_of HT_.out (by kernel_rfl)) (fun _ _ _ h => h) (Or.inl ⟨by rfl, ?_⟩) ?_ ?_
                      rotate_left
                      · intro w'
                        go_simp
                        with_reducible rfl
                      rotate_left
                      · simp only [Act.put, List.setIfInBounds_toArray, List.set_cons_zero, List.set_cons_succ, i64_w, i32_w]
                        rfl
                      refine take_ (i := 2) (N := some 51) (v := ?_) (a' := ?_) #[true, true, true, false, false, true, false, false, false] rfl rfl (take_ofW HT_.out HW_.out (by kernel_rfl)) (fun _ _ _ h => h) (Or.inl ⟨by rfl, ?_⟩) hHeld ?_ ?_
                      rotate_left
                      · rintro w' ⟨s0, s1, s2, s3⟩
                        go_simp
                        with_reducible rfl
                      rotate_left
                      · simp only [Act.put, List.setIfInBounds_toArray, List.set_cons_zero, List.set_cons_succ, i64_w, i32_w]
                        rfl
                      refine pure_ (i := 3) (N := some 52) (v := ?_) (a' := ?_) #[true, true, true, true, false, true, false, false, false] rfl rfl (any_of HT_.out (by kernel_rfl)) (fun _ _ _ h => h) (Or.inl ⟨by rfl, ?_⟩) ?_ ?_
                      rotate_left
                      · intro w'
                        go_simp
                        with_reducible rfl
                      rotate_left
                      · simp only [Act.put, List.setIfInBounds_toArray, List.set_cons_zero, List.set_cons_succ, i64_w, i32_w]
                        rfl
                      refine take_ (i := 6) (N := some 55) (v := ?_) (a' := ?_) #[true, true, true, true, false, true, true, false, false] rfl rfl (take_ofW HT_.out HW_.out (by kernel_rfl)) (fun _ _ _ h => h) (Or.inl ⟨by rfl, ?_⟩) hHeld ?_ ?_
                      rotate_left
                      · rintro w' ⟨s0, s1, s2, s3⟩
                        go_simp
                        with_reducible rfl
                      rotate_left
                      · simp only [Act.put, List.setIfInBounds_toArray, List.set_cons_zero, List.set_cons_succ, i64_w, i32_w]
                        rfl
                      refine one_ (i := 4) (N := some 53) #[true, true, true, true, true, true, true, false, false] rfl rfl (one_of HT_.out (by kernel_rfl)) (by decide) (fun K hK => ?_)
                      refine goes_ Try.func54 (by kernel_rfl) rfl #[.slice Ao41 y184.length co41, .int .i64 (((rd_T62 l0 x13_1).f3).length : Int)] (by rfl) rfl rfl (by (try simp only [List.map_toArray, List.map_cons, List.map_nil]); first | done | rfl | (simp only [List.length_drop, List.length_take]; rfl)) ?_
                      with_reducible refine (impl_putSeven.calls k1 (fun k_ => some k_ = (.slice Ao41 y184.length co41 : Value).ownBlock) (.slice Ao41 y184.length co41) y184 (((rd_T62 l0 x13_1).f3).length : Int) t193 w _ ?side1 ?side2 A32.out).mono ?_
                      (case side1 => repeat (first | (with_reducible first | exact HB.out | apply below_alloc | apply pw_below_drewN | apply below_drew1 | refine below_set ?_ GE182.out) | exact HB.out))
                      (case side2 => exact Kd.R_tight rfl HO186.out)
                      rintro e w42 ⟨v194, rfl, ho0, hb, hkp⟩
                      refine ⟨_, rfl, ?_⟩
                      have n0_ := Aside0.mk (blk_kept (by (with_reducible repeat (first | refine blk_drewN ?_ _ | refine blk_drew ?_ | refine blk_alloc ?_ _)); exact BK182.out) hkp (fun hs_ => (fun e_ => (Kd.R_ne HO186.out BK182.out (by decide)) e_) hs_))
                      have n1_ := Aside0.mk (Kd.R_mono (ok' := fun k_ => True) ho0 (fun k_ hk_ => trivial))
                      have n2_ := Aside0.mk (hb)
                      clear BK182
                      clear HB
                      clear HO186
                      have BK182 := n0_
                      have HO195 := n1_
                      have HB := n2_
                      clear n0_ n1_ n2_
                      (try clear hb)
                      (try clear hkp)
                      (try clear ho0)
                      refine hK.out _ _ ⟨(blk_cell BK182.out 0).trans rfl, (blk_cell BK182.out 1).trans rfl, (blk_cell BK182.out 2).trans rfl, (blk_cell BK182.out 3).trans rfl⟩ (fun hHeld => ?_)
                      clear hK K
                      refine norm_ (a' := ?_) ?_ ?_
                      rotate_left
                      · show Act.put _ (some 53) _ = _
                        simp only [Act.put, List.setIfInBounds_toArray, List.set_cons_zero, List.set_cons_succ, i64_w, i32_w]
                        rfl
                      refine one_ (i := 7) (N := some 56) #[true, true, true, true, true, true, true, true, false] rfl rfl (one_of HT_.out (by kernel_rfl)) (by decide) (fun K hK => ?_)
                      refine Kd.R_append_rows_step (Kd.int .u8) (w0 := w) w.heap.size (by rfl) (.tmp 53) (.tmp 55) 22 5 (.int .u8 0) 1 rfl Try.underlying22 info5 rfl (by decide) (by omega) v194 t193 ((rd_T62 l0 x13_1).f3) _ _ _ (fun _ => True) (fun _ => False) rfl rfl ?aO ?aR (fun _ _ h => h) (fun _ h => h.elim) ?aF ?aB ?aS ?aL ?_
                      (case aR => repeat (first | exact (Kd.C_below HR181_3.out HB.out) | (with_reducible refine Kd.C_alloc ?_ _) | (with_reducible refine Kd.C_drewN ?_ _) | (with_reducible refine Kd.C_drew ?_)))
                      (case aB => exact (by repeat (first | (with_reducible first | exact HB.out | apply below_alloc | apply pw_below_drewN | apply below_drew1 | refine below_set ?_ GE182.out) | exact HB.out)))
                      (case aF => exact (fun _ _ => trivial))
                      (case aO => exact (by (with_reducible repeat (first | apply Kd.R_alloc | apply Kd.R_drewN | apply Kd.R_drew)); exact HO195.out))
                      (case aS => exact (below_size (by repeat (first | (with_reducible first | exact HB.out | apply below_alloc | apply pw_below_drewN | apply below_drew1 | refine below_set ?_ GE182.out) | exact HB.out))))
                      (case aL => have := LMc33.out; omega)
                      intro v197 w43 ho hb hg hat
                      rw [← Ny196.out] at ho
                      have n0_ := Aside0.mk (blk_grown (g := gb182) (o := .cells #[.int .i64 ((rd_T62 l0 x13_1).f0), .int .i64 ((rd_T62 l0 x13_1).f1), .int .i64 ((rd_T62 l0 x13_1).f2), .slice A181_3 ((rd_T62 l0 x13_1).f3).length c181_3] 62 (0, 0)) (by (with_reducible repeat (first | refine blk_drewN ?_ _ | refine blk_drew ?_ | refine blk_alloc ?_ _)); exact BK182.out) hg (Kd.R_ne HO195.out BK182.out (by decide)))
                      have n1_ := Aside0.mk (hb)
                      have n2_ := Aside0.mk (ho)
                      clear BK182
                      clear HB
                      clear HO195
                      have BK182 := n0_
                      have HB := n1_
                      have HO198 := n2_
                      clear n0_ n1_ n2_
                      clear ho hb hg hat
                      refine hK.out _ _ ⟨(blk_cell BK182.out 0).trans rfl, (blk_cell BK182.out 1).trans rfl, (blk_cell BK182.out 2).trans rfl, (blk_cell BK182.out 3).trans rfl⟩ (fun hHeld => ?_)
                      clear hK K
                      refine norm_ (a' := ?_) ?_ ?_
                      rotate_left
                      · show Act.put _ (some 56) _ = _
                        simp only [Act.put, List.setIfInBounds_toArray, List.set_cons_zero, List.set_cons_succ, i64_w, i32_w]
                        rfl
                      refine pure_ (i := 8) (N := some 3) (v := ?_) (a' := ?_) #[true, true, true, true, true, true, true, true, true] rfl rfl (any_of HT_.out (by kernel_rfl)) (fun _ _ _ h => h) (Or.inl ⟨by rfl, ?_⟩) ?_ ?_
                      rotate_left
                      · intro w'
                        go_simp
                        with_reducible rfl
                      rotate_left
                      · simp only [Act.put, List.setIfInBounds_toArray, List.set_cons_zero, List.set_cons_succ, i64_w, i32_w]
                        rfl
                      refine done_ (done_of HT_.out (by kernel_rfl)) ?_
                      try go_wp2
                      go_roundg k1
                      case measure => have := HK1.out; omega
                      case rel => exact ⟨(y196), (wrap64 (x13_1 + 1)), (by first | rfl | (simp; done) | (simp [*]; done)), H', ⟨by have := HK1.out; omega⟩, ⟨Kd.RM_of (by (with_reducible repeat (first | apply Kd.R_alloc | apply Kd.R_drewN | apply Kd.R_drew)); exact HO198.out)⟩, ⟨by repeat (first | (with_reducible first | exact HB.out | apply below_alloc | apply pw_below_drewN | apply below_drew1 | refine below_set ?_ GE182.out) | exact HB.out)⟩⟩
                    · rw [if_neg c33] at H
                      exact absurd H (by simp)
                · rw [if_neg c10] at H
                  exact absurd H (by simp)
              · replace c9 := Bool.eq_false_iff.mpr c9
                subst c9
                have H1 : (some ([] : List Int)) = some r := by rw [if_neg (show ¬ (false = true) by decide)] at H; exact H
                clear H
                have H := H1
                clear H1
                obtain rfl := Option.some.inj H
                have p181 : 0 ≤ (x13_1 : Int) := of_decide_eq_true (by first | (with_reducible assumption) | assumption)
                have q181 : x13_1 < (l0.length : Int) := of_decide_eq_true (by first | (with_reducible assumption) | assumption)
                obtain ⟨ad181, A181_3, c181_3, e181, hx181_0, hx181_1, hx181_2, hx181_3, hl181_3, hi181_3⟩ := at_T62 HR0.out x13_1 p181 q181
                cases e181
                try (replace hx181_0 := (HB.out.cell (World.block_lt_of_cell? w _ hx181_0)).trans hx181_0)
                try (replace hx181_1 := (HB.out.cell (World.block_lt_of_cell? w _ hx181_1)).trans hx181_1)
                try (replace hx181_2 := (HB.out.cell (World.block_lt_of_cell? w _ hx181_2)).trans hx181_2)
                try (replace hx181_3 := (HB.out.cell (World.block_lt_of_cell? w _ hx181_3)).trans hx181_3)
                have HR181_3 := Aside0.mk hi181_3
                have HC181_3 := Aside0.mk hl181_3
                clear hi181_3 hl181_3
                replace p181 := eq_true p181
                replace q181 := eq_true q181
                go_wp2_with (first | ((with_reducible refine gate_dst (N := 5) rfl ?_); refine box_event ?hg (N := 5) ?hd (cs := #[.int .i64 0, .int .i64 0, .int .i64 0, .slice none 0 0]) (t := 62) ?hr ?_; (case hd => rfl); (case hg => rfl); (case hr => first | (go_simp; done) | (go_simp; rfl)); intro gb182 hg w44 hbox hb; have n0_ := Aside0.mk (Kd.RM_below (by (with_reducible repeat (first | apply Kd.RM_alloc | apply Kd.RM_drewN | apply Kd.RM_drew)); exact HO_3.out) hb); have n1_ := Aside0.mk (below_step (by repeat (first | (with_reducible first | exact HB.out | apply below_alloc | apply pw_below_drewN | apply below_drew1) | exact HB.out)) hb); have n2_ := Aside0.mk (hbox); have n3_ := Aside0.mk ((by rw [hg]; exact (below_size (by repeat (first | (with_reducible first | exact HB.out | apply below_alloc | apply pw_below_drewN | apply below_drew1) | exact HB.out))) : w.heap.size ≤ gb182)); have n4_ := Aside0.mk ((by rw [hg]; exact (below_size (by repeat (first | (with_reducible first | exact HB.out | apply below_alloc | apply pw_below_drewN | apply below_drew1) | exact HB.out))) : w.heap.size ≤ gb182)); clear HO_3; clear HB; have HO_3 := n0_; have HB := n1_; have BK182 := n2_; have GW182 := n3_; have GE182 := n4_; clear n0_ n1_ n2_ n3_ n4_; clear hb hbox hg; have hcz45_0 : w44.cell? ⟨gb182, 0, none⟩ = some (.int .i64 0) := (blk_cell BK182.out 0).trans rfl; have hcz45_1 : w44.cell? ⟨gb182, 1, none⟩ = some (.int .i64 0) := (blk_cell BK182.out 1).trans rfl; have hcz45_2 : w44.cell? ⟨gb182, 2, none⟩ = some (.int .i64 0) := (blk_cell BK182.out 2).trans rfl; have hcz45_3 : w44.cell? ⟨gb182, 3, none⟩ = some (.slice none 0 0) := (blk_cell BK182.out 3).trans rfl; have hfz45_0 := blk_frozen BK182.out 0; have hfz45_1 := blk_frozen BK182.out 1; have hfz45_2 := blk_frozen BK182.out 2; have hfz45_3 := blk_frozen BK182.out 3) | ((with_reducible refine gate_callee (f := 52) rfl ?_); refine goesL_ (some 18) rfl rfl Try.func52 (by kernel_rfl) rfl #[.agg #[.int .i64 ((rd_T62 l0 x13_1).f0), .int .i64 ((rd_T62 l0 x13_1).f1), .int .i64 ((rd_T62 l0 x13_1).f2), .slice A181_3 ((rd_T62 l0 x13_1).f3).length c181_3]] rfl (by (try simp only [List.map_toArray, List.map_cons, List.map_nil]); first | done | rfl | (simp only [List.length_drop, List.length_take]; rfl)) ?_; (with_reducible refine (impl_stepOk.calls ((rd_T62 l0 x13_1).f0) ((rd_T62 l0 x13_1).f1) ((rd_T62 l0 x13_1).f2) _ _ ((rd_T62 l0 x13_1).f3) false _ ?side1 ?side2 A8.out).mono ?_); (case side1 => exact Kd.C_below HR181_3.out (by repeat (first | (with_reducible first | exact HB.out | apply below_alloc | apply pw_below_drewN | apply below_drew1 | refine below_set ?_ GE182.out) | exact HB.out))); (case side2 => exact HC181_3.out); rintro e w46 ⟨rfl, hb⟩; refine ⟨_, rfl, ?_⟩; have n0_ := Aside0.mk (Kd.RM_below (by (with_reducible repeat (first | apply Kd.RM_alloc | apply Kd.RM_drewN | apply Kd.RM_drew)); exact (Kd.RM_mono (Kd.RM_far (p := ⟨gb182, 3, none⟩) (Kd.RM_far (p := ⟨gb182, 2, none⟩) (Kd.RM_far (p := ⟨gb182, 1, none⟩) (Kd.RM_far (p := ⟨gb182, 0, none⟩) (Kd.RM_types HO_3.out BK182.out (by decide)) (fun _ hk => hk.2) (.int .i64 ((rd_T62 l0 x13_1).f0))) (fun _ hk => hk.2) (.int .i64 ((rd_T62 l0 x13_1).f1))) (fun _ hk => hk.2) (.int .i64 ((rd_T62 l0 x13_1).f2))) (fun _ hk => hk.2) (.slice A181_3 ((rd_T62 l0 x13_1).f3).length c181_3)) (fun _ h_ => h_.1))) hb); have n1_ := Aside0.mk (blk_below (g := gb182) (o := .cells #[.int .i64 ((rd_T62 l0 x13_1).f0), .int .i64 ((rd_T62 l0 x13_1).f1), .int .i64 ((rd_T62 l0 x13_1).f2), .slice A181_3 ((rd_T62 l0 x13_1).f3).length c181_3] 62 (0, 0)) (by (with_reducible repeat (first | refine blk_drewN ?_ _ | refine blk_drew ?_ | refine blk_alloc ?_ _)); refine blk_put (cs := #[.int .i64 ((rd_T62 l0 x13_1).f0), .int .i64 ((rd_T62 l0 x13_1).f1), .int .i64 ((rd_T62 l0 x13_1).f2), .slice none 0 0]) ?_ 3 _ rfl; (with_reducible repeat (first | refine blk_drewN ?_ _ | refine blk_drew ?_ | refine blk_alloc ?_ _)); refine blk_put (cs := #[.int .i64 ((rd_T62 l0 x13_1).f0), .int .i64 ((rd_T62 l0 x13_1).f1), .int .i64 0, .slice none 0 0]) ?_ 2 _ rfl; (with_reducible repeat (first | refine blk_drewN ?_ _ | refine blk_drew ?_ | refine blk_alloc ?_ _)); refine blk_put (cs := #[.int .i64 ((rd_T62 l0 x13_1).f0), .int .i64 0, .int .i64 0, .slice none 0 0]) ?_ 1 _ rfl; (with_reducible repeat (first | refine blk_drewN ?_ _ | refine blk_drew ?_ | refine blk_alloc ?_ _)); refine blk_put (cs := #[.int .i64 0, .int .i64 0, .int .i64 0, .slice none 0 0]) ?_ 0 _ rfl; (with_reducible repeat (first | refine blk_drewN ?_ _ | refine blk_drew ?_ | refine blk_alloc ?_ _)); exact BK182.out) hb); have n2_ := Aside0.mk (below_step (by repeat (first | (with_reducible first | exact HB.out | apply below_alloc | apply pw_below_drewN | apply below_drew1 | refine below_set ?_ GE182.out) | exact HB.out)) hb); clear HO_3; clear BK182; clear HB; have HO_3 := n0_; have BK182 := n1_; have HB := n2_; clear n0_ n1_ n2_; (try clear hb); (try clear hb2); (try clear hk); (try clear hi)))
                go_ret
                exact ⟨_, by first | rfl | (simp [errW_none, errW_some] <;> rfl) | (simp [*, errW_none, errW_some] <;> rfl), Kd.RM_of (Kd.R_nil _ _ _ _ _), by repeat (first | (with_reducible first | exact HB.out | apply below_alloc | apply pw_below_drewN | apply below_drew1 | refine below_set ?_ GE182.out) | exact HB.out)⟩
            · rw [if_neg c7] at H
              exact absurd H (by simp)
          · rw [if_neg c6] at H
            exact absurd H (by simp)
        · rw [if_neg c5] at H
          have c5b0 : decide (x13_1 < (l0.length : Int)) = false := decide_eq_false c5
          clear c5
          obtain rfl := Option.some.inj H
          go_wp2
          go_ret
          exact ⟨_, by first | rfl | (simp [errW_none, errW_some] <;> rfl) | (simp [*, errW_none, errW_some] <;> rfl), by (with_reducible repeat (first | apply Kd.RM_alloc | apply Kd.RM_drewN | apply Kd.RM_drew)); exact HO_3.out, by repeat (first | (with_reducible first | exact HB.out | apply below_alloc | apply pw_below_drewN | apply below_drew1) | exact HB.out)⟩
theorem impl_DeltaBytes.calls (k : Nat) (A0 : Option Addr) (c0 : Nat) (l0 : List (S62)) (r : List Int) (w : World) (hr0 : Kd.C k62 w A0 l0.length l0) (hc0 : l0.length ≤ c0) (h : impl_DeltaBytes.f k l0 = some r) :
    Calls Try.prog 30 #[.slice A0 l0.length c0] w fun e w' => ∃ v0_ : Value, e = .returned (v0_) ∧ Kd.V (Kd.int .u8) 5 w' w.heap.size (fun k_ => (w.heap.size ≤ k_)) v0_ r ∧ Below w.heap.size w w' := (impl_DeltaBytes.callsM k A0 c0 l0 r w hr0 hc0 h).mono (fun e w' ⟨v0_, h1, h2, h3⟩ => ⟨v0_, h1, Kd.RM_V h2, h3⟩)


end Go.Proofs.Ytkijlpiiiejjkaa.PFnExactDeltaBytes
