-- Laid by a program of this session: a turned copy of the kit's print, with contracts by hand beside.
import Derived.Test.YtkijlpiiiejjkaaPFnExactSavedx0
import Derived.Test.YtkijlpiiiejjkaaPFnExactSavedx1
namespace Go.Proofs.Ytkijlpiiiejjkaa.PFnExactSaved
open Go.RowKit Go.Proofs.YtkijlpiiiejjkaaW.PrintWords Go.Proofs.YtkijlpiiiejjkaaW.PrintLast Go.Proofs.YtkijlpiiiejjkaaW.PrintMore
attribute [local go_sem] max2_int min2_int max_two min_two max_three min_three max_four min_four   -- for this text's walks alone
set_option linter.unusedVariables false
set_option linter.unusedSimpArgs false

/-! ### spec_MakeDelta: function 14 -/
mutual
def spec_MakeDelta.j0 : Nat → List Int → List Int → List (S62) → Bool → Option ((List (S62)))
  | 0, _, _, _, _ => none
  | k + 1, x0, x1, x5, x18 => if x18 = true then (some x5) else (spec_MakeDelta.l0 k x0 x1 x5 0)
def spec_MakeDelta.l0 : Nat → List Int → List Int → List (S62) → Int → Option ((List (S62)))
  | 0, _, _, _, _ => none
  | k + 1, x0, x1, x5, x6 => if x6 < (x1.length : Int) then ((spec_l14Find.f k x0 x1 x6).bind fun bt116 => (if bt116.2 ≥ 6 then (if x5.length < 2932031007402 then (spec_MakeDelta.l0 k x0 x1 (x5 ++ [(⟨1, bt116.1, bt116.2, ([] : List Int)⟩ : S62)]) (wrap64 (x6 + bt116.2))) else (none)) else (if (wrap64 ((x5.length : Int) - 1)) < 0 then (if x5.length < 2932031007402 then ((some (x5 ++ [(⟨2, 0, 0, ([] : List Int)⟩ : S62)] : List (S62))).bind fun y121 => (if 0 ≤ (wrap64 ((wrap64 ((x5.length : Int) - 1)) + 1)) then (if (wrap64 ((wrap64 ((x5.length : Int) - 1)) + 1)) < (y121.length : Int) then (if 0 ≤ x6 then (if ((rd_T62 y121 (wrap64 ((wrap64 ((x5.length : Int) - 1)) + 1))).f3).length < 140737488355328 then (spec_MakeDelta.l0 k x0 x1 (y121.set ((wrap64 ((wrap64 ((x5.length : Int) - 1)) + 1)) : Int).toNat (⟨(rd_T62 y121 (wrap64 ((wrap64 ((x5.length : Int) - 1)) + 1))).f0, (rd_T62 y121 (wrap64 ((wrap64 ((x5.length : Int) - 1)) + 1))).f1, (rd_T62 y121 (wrap64 ((wrap64 ((x5.length : Int) - 1)) + 1))).f2, (((rd_T62 y121 (wrap64 ((wrap64 ((x5.length : Int) - 1)) + 1))).f3) ++ [rd x1 x6])⟩ : S62)) (wrap64 (x6 + 1))) else (none)) else (none)) else (none)) else (none))) else (none)) else (if 0 ≤ (wrap64 ((x5.length : Int) - 1)) then (if (wrap64 ((x5.length : Int) - 1)) < (x5.length : Int) then (if ((rd_T62 x5 (wrap64 ((x5.length : Int) - 1))).f0) = 2 then (if 0 ≤ x6 then (if ((rd_T62 x5 (wrap64 ((x5.length : Int) - 1))).f3).length < 140737488355328 then (spec_MakeDelta.l0 k x0 x1 (x5.set ((wrap64 ((x5.length : Int) - 1)) : Int).toNat (⟨(rd_T62 x5 (wrap64 ((x5.length : Int) - 1))).f0, (rd_T62 x5 (wrap64 ((x5.length : Int) - 1))).f1, (rd_T62 x5 (wrap64 ((x5.length : Int) - 1))).f2, (((rd_T62 x5 (wrap64 ((x5.length : Int) - 1))).f3) ++ [rd x1 x6])⟩ : S62)) (wrap64 (x6 + 1))) else (none)) else (none)) else (if x5.length < 2932031007402 then ((some (x5 ++ [(⟨2, 0, 0, ([] : List Int)⟩ : S62)] : List (S62))).bind fun y137 => (if 0 ≤ (wrap64 ((wrap64 ((x5.length : Int) - 1)) + 1)) then (if (wrap64 ((wrap64 ((x5.length : Int) - 1)) + 1)) < (y137.length : Int) then (if 0 ≤ x6 then (if ((rd_T62 y137 (wrap64 ((wrap64 ((x5.length : Int) - 1)) + 1))).f3).length < 140737488355328 then (spec_MakeDelta.l0 k x0 x1 (y137.set ((wrap64 ((wrap64 ((x5.length : Int) - 1)) + 1)) : Int).toNat (⟨(rd_T62 y137 (wrap64 ((wrap64 ((x5.length : Int) - 1)) + 1))).f0, (rd_T62 y137 (wrap64 ((wrap64 ((x5.length : Int) - 1)) + 1))).f1, (rd_T62 y137 (wrap64 ((wrap64 ((x5.length : Int) - 1)) + 1))).f2, (((rd_T62 y137 (wrap64 ((wrap64 ((x5.length : Int) - 1)) + 1))).f3) ++ [rd x1 x6])⟩ : S62)) (wrap64 (x6 + 1))) else (none)) else (none)) else (none)) else (none))) else (none))) else (none)) else (none))))) else (if (x5.length : Int) > 10000 then (some (([] : List (S62)))) else (some x5))
end
def spec_MakeDelta.f (k : Nat) (l0 : List Int) (l1 : List Int) : Option ((List (S62))) := (some (([] : List (S62)) : List (S62))).bind fun y110 => (if (l0.length : Int) > 3000 then (spec_MakeDelta.j0 k l0 l1 y110 true) else (spec_MakeDelta.j0 k l0 l1 y110 (decide ((l1.length : Int) > 3000))))
theorem spec_MakeDelta.mono_l : ∀ k, (∀ y0 y1 y2 y3, LeO (spec_MakeDelta.j0 k y0 y1 y2 y3) (spec_MakeDelta.j0 (k + 1) y0 y1 y2 y3)) ∧ (∀ y0 y1 y2 y3, LeO (spec_MakeDelta.l0 k y0 y1 y2 y3) (spec_MakeDelta.l0 (k + 1) y0 y1 y2 y3))
  | 0 => ⟨fun _ _ _ _ r h => by simp [spec_MakeDelta.j0] at h, fun _ _ _ _ r h => by simp [spec_MakeDelta.l0] at h⟩
  | k + 1 => by
    obtain ⟨ih0, ih1⟩ := spec_MakeDelta.mono_l k
    refine ⟨?_, ?_⟩
    · intro y0 y1 y2 y3
      unfold spec_MakeDelta.j0
      repeat' first
      | (with_reducible exact ih0 _ _ _ _)
      | (with_reducible exact ih1 _ _ _ _)
      | (with_reducible exact spec_l14Find.mono _ _ _ _)
      | (with_reducible exact LeO.refl _)
      | (with_reducible exact LeO.none _)
      | (with_reducible refine LeO.ite ?_ ?_)
      | (with_reducible refine LeO.bind ?_ (fun _ => ?_))
      | exact ih0 _ _ _ _
      | exact ih1 _ _ _ _
      | exact spec_l14Find.mono _ _ _ _
      | exact LeO.none _
      | refine LeO.ite ?_ ?_
      | refine LeO.bind ?_ (fun _ => ?_)
    · intro y0 y1 y2 y3
      unfold spec_MakeDelta.l0
      repeat' first
      | (with_reducible exact ih0 _ _ _ _)
      | (with_reducible exact ih1 _ _ _ _)
      | (with_reducible exact spec_l14Find.mono _ _ _ _)
      | (with_reducible exact LeO.refl _)
      | (with_reducible exact LeO.none _)
      | (with_reducible refine LeO.ite ?_ ?_)
      | (with_reducible refine LeO.bind ?_ (fun _ => ?_))
      | exact ih0 _ _ _ _
      | exact ih1 _ _ _ _
      | exact spec_l14Find.mono _ _ _ _
      | exact LeO.none _
      | refine LeO.ite ?_ ?_
      | refine LeO.bind ?_ (fun _ => ?_)
theorem spec_MakeDelta.mono : ∀ a0 a1 k, LeO (spec_MakeDelta.f k a0 a1) (spec_MakeDelta.f (k + 1) a0 a1) := by
  intro a0 a1 k
  obtain ⟨ih0, ih1⟩ := spec_MakeDelta.mono_l k
  unfold spec_MakeDelta.f
  repeat' first
      | (with_reducible exact ih0 _ _ _ _)
      | (with_reducible exact ih1 _ _ _ _)
      | (with_reducible exact spec_l14Find.mono _ _ _ _)
      | (with_reducible exact LeO.refl _)
      | (with_reducible exact LeO.none _)
      | (with_reducible refine LeO.ite ?_ ?_)
      | (with_reducible refine LeO.bind ?_ (fun _ => ?_))
      | exact ih0 _ _ _ _
      | exact ih1 _ _ _ _
      | exact spec_l14Find.mono _ _ _ _
      | exact LeO.none _
      | refine LeO.ite ?_ ?_
      | refine LeO.bind ?_ (fun _ => ?_)
def spec_MakeDelta.T14 : Bool × List (List Nat × List Nat) := (true, [([], []), ([], []), ([], []), ([], []), ([2, 3], [2, 3]), ([4], [4]), ([5], [5]), ([], []), ([], []), ([7, 8], [7, 8]), ([9], [9]), ([10], [10]), ([6, 11], [6, 11]), ([0, 1, 0, 1, 2, 3, 4, 5, 6, 7, 8, 9, 10, 11, 12], [0, 1]), ([13, 0, 1, 2, 3, 4, 5, 6, 7, 8, 9, 10, 11, 12], [13]), ([14, 12, 12, 0, 1, 2, 3, 4, 5, 6, 7, 8, 9, 10, 11, 12], [12, 14])])
def spec_MakeDelta.B14 : List Nat := [0, 0, 0, 0, 12, 28, 60, 0, 0, 384, 896, 1920, 4092, 8191, 16383, 32767]
theorem spec_MakeDelta.tab14 : rtab .any (opsOf Try.f14 14) = spec_MakeDelta.T14 := by kernel_rfl
theorem spec_MakeDelta.bits14 : waitsOk spec_MakeDelta.T14.2 spec_MakeDelta.B14 = true := by kernel_rfl
set_option maxHeartbeats 8000000 in
set_option maxRecDepth 100000 in
theorem spec_MakeDelta.calls (k : Nat) (A0 : Option Addr) (c0 : Nat) (l0 : List Int) (A1 : Option Addr) (c1 : Nat) (l1 : List Int) (r : List (S62)) (w : World) (hr0 : Kd.C (Kd.int .u8) w A0 l0.length l0) (hc0 : l0.length ≤ c0) (hr1 : Kd.C (Kd.int .u8) w A1 l1.length l1) (hc1 : l1.length ≤ c1) (h : spec_MakeDelta.f k l0 l1 = some r) :
    Calls Try.prog 14 #[.slice A0 l0.length c0, .slice A1 l1.length c1] w fun e w' => ∃ v0_ : Value, e = .returned (v0_) ∧ Kd.S k62 62 w' w.heap.size (fun _ => True) v0_ r ∧ Below w.heap.size w w' := by
  have hu62 := Try.underlying62
  have HR0 := Aside0.mk hr0
  have HC0 := Aside0.mk hc0
  clear hr0 hc0
  have HR1 := Aside0.mk hr1
  have HC1 := Aside0.mk hc1
  clear hr1 hc1
  have HB := Aside0.mk (Below.refl w.heap.size w)
  have H : ((some (([] : List (S62)) : List (S62))).bind fun y110 => (if (l0.length : Int) > 3000 then (spec_MakeDelta.j0 k l0 l1 y110 true) else (spec_MakeDelta.j0 k l0 l1 y110 (decide ((l1.length : Int) > 3000))))) = some r := h
  clear h
  obtain ⟨y110, hy110⟩ : ∃ y_ : List (S62), y_ = (([] : List (S62))) := ⟨_, rfl⟩
  replace H : (if (l0.length : Int) > 3000 then (spec_MakeDelta.j0 k l0 l1 y110 true) else (spec_MakeDelta.j0 k l0 l1 y110 (decide ((l1.length : Int) > 3000)))) = some r := by first | (rw [hy110]; with_reducible exact H) | (have H2_ := (Option.bind_some _ _).symm.trans H; rw [hy110]; with_reducible exact H2_) | (have H2_ := (Option.bind_some _ _).symm.trans H; with_reducible exact H2_) | with_reducible exact H | (rw [hy110]; exact H) | exact H
  have Ny110 := Aside0.mk hy110
  clear hy110
  have HC3 := Aside0.mk H
  clear H
  go_enter Try.func14, Try.ntmps14
  go_upto_region 2 with (first | ((with_reducible refine gate_dst (N := 10) rfl ?_); (try (refine gate_guard (by rfl) ?_; dsimp only)); refine Kd.S_lit k62 _ 62 ?hg (N := 10) ?hd (xs := ([] : List (S62))) (inner := []) (ok := fun _ => True) (okp := fun _ => True) ?hr ?hp (fun _ hk => hk) trivial (Below.refl _ _) (Nat.le_refl _) (by simp) ?_; (case hd => rfl); (case hg => rfl); (case hr => first | (go_simp; done) | (go_simp; rfl)); (case hp => exact (Reps.none _ _)); intro v111 w4 ho5 hb hg_ hnew_; clear hg_ hnew_; (first | rw [← Ny110.out] at ho5 | (simp only [Int.reduceToNat] at ho5; rw [← Ny110.out] at ho5)); have n0_ := Aside0.mk (Kd.S_lower ho5 (below_size (by repeat (first | (with_reducible first | exact HB.out | apply below_alloc | apply pw_below_drewN | apply below_drew1) | exact HB.out)))); have n1_ := Aside0.mk (below_step (by repeat (first | (with_reducible first | exact HB.out | apply below_alloc | apply pw_below_drewN | apply below_drew1) | exact HB.out)) hb); clear HB; have HO112 := n0_; have HB := n1_; clear n0_ n1_; clear hb ho5))
  (try simp only [Act.put, List.setIfInBounds_toArray, List.set_cons_zero, List.set_cons_succ])
  go_cut [18] (fun v18 wc => ∃ (kq : Nat) (x18_2 : Bool), v18 = .bool x18_2 ∧ Aside0 (spec_MakeDelta.j0 kq l0 l1 y110 x18_2 = some r) ∧ Aside0 (kq ≤ k) ∧ Aside0 (Kd.S k62 62 wc w.heap.size (fun _ => True) v111 y110) ∧ Aside0 (Below w.heap.size w wc))
  case first =>
    have H := HC3.out
    clear HC3
    by_cases c6 : (l0.length : Int) > 3000
    · rw [if_pos c6] at H
      have c6b0 : decide (3000 < (l0.length : Int)) = true := decide_eq_true c6
      have c6b1 : decide (3000 < l0.length) = true := decide_eq_true (by omega)
      clear c6
      (first | rw [c6b0] | (simp only [i64_w, i32_w]; rw [c6b0]) | skip)
      have H' := Aside0.mk H
      clear H
      go_wp2
      go_meet
      case rel => exact ⟨_, (true), (by first | rfl | (simp; done) | (simp [*]; done)), H', ⟨by first | omega | exact Nat.le_refl _⟩, ⟨by (with_reducible repeat (first | apply Kd.S_alloc | apply Kd.S_drewN | apply Kd.S_drew)); exact HO112.out⟩, ⟨by repeat (first | (with_reducible first | exact HB.out | apply below_alloc | apply pw_below_drewN | apply below_drew1) | exact HB.out)⟩⟩
    · rw [if_neg c6] at H
      have c6b0 : decide (3000 < (l0.length : Int)) = false := decide_eq_false c6
      have c6b1 : decide (3000 < l0.length) = false := decide_eq_false (by omega)
      clear c6
      (first | rw [c6b0] | (simp only [i64_w, i32_w]; rw [c6b0]) | skip)
      have H' := Aside0.mk H
      clear H
      go_wp2
      go_meet
      case rel => exact ⟨_, (decide ((l1.length : Int) > 3000)), (by first | rfl | (simp; done) | (simp [*]; done)), H', ⟨by first | omega | exact Nat.le_refl _⟩, ⟨by (with_reducible repeat (first | apply Kd.S_alloc | apply Kd.S_drewN | apply Kd.S_drew)); exact HO112.out⟩, ⟨by repeat (first | (with_reducible first | exact HB.out | apply below_alloc | apply pw_below_drewN | apply below_drew1) | exact HB.out)⟩⟩
  case rest =>
    clear HC3
    try clear c1
    try clear p2
    try clear c6
    try clear c6b0
    try clear c6b1
    obtain ⟨kq, x18_2, rfl, HA, HJ2, HO_5, HB⟩ := hcut
    cases kq with
    | zero => exact absurd HA.out (by simp [spec_MakeDelta.j0])
    | succ kj2 =>
      have H := HA.out
      clear HA
      simp only [spec_MakeDelta.j0] at H
      by_cases c7 : x18_2 = true
      · subst c7
        have H1 : (some y110) = some r := by rw [if_pos rfl] at H; exact H
        clear H
        have H := H1
        clear H1
        obtain rfl := Option.some.inj H
        go_wp2
        go_ret
        exact ⟨_, by first | rfl | (simp [errW_none, errW_some] <;> rfl) | (simp [*, errW_none, errW_some] <;> rfl), by (with_reducible repeat (first | apply Kd.S_alloc | apply Kd.S_drewN | apply Kd.S_drew)); exact HO_5.out, by repeat (first | (with_reducible first | exact HB.out | apply below_alloc | apply pw_below_drewN | apply below_drew1) | exact HB.out)⟩
      · replace c7 := Bool.eq_false_iff.mpr c7
        subst c7
        have H1 : (spec_MakeDelta.l0 kj2 l0 l1 y110 0) = some r := by rw [if_neg (show ¬ (false = true) by decide)] at H; exact H
        clear H
        have H := H1
        clear H1
        have H' := Aside0.mk H
        clear H
        go_wp2
        go_loopg [5, 6] kj2 (fun kq v5 v6 w' => ∃ (x5_2 : List (S62)) (x6_2 : Int), v6 = .int .i64 x6_2 ∧ Aside0 (spec_MakeDelta.l0 kq l0 l1 x5_2 x6_2 = some r) ∧ Aside0 (kq ≤ kj2) ∧ Aside0 (Kd.S k62 62 w' w.heap.size (fun _ => True) v5 x5_2) ∧ Aside0 (Below w.heap.size w w'))
        case atStart => exact ⟨(y110), (0), (by first | rfl | (simp; done) | (simp [*]; done)), H', ⟨Nat.le_refl _⟩, ⟨by (with_reducible repeat (first | apply Kd.S_alloc | apply Kd.S_drewN | apply Kd.S_drew)); exact HO_5.out⟩, ⟨by repeat (first | (with_reducible first | exact HB.out | apply below_alloc | apply pw_below_drewN | apply below_drew1) | exact HB.out)⟩⟩
        case round =>
          clear H'
          try clear c1
          try clear p2
          try clear c6
          try clear c6b0
          try clear c6b1
          try clear c7
          try clear p2
          obtain ⟨x5_2, x6_2, rfl, HA, HK2, HO_5, HB⟩ := hrel
          cases gk with
          | zero => exact absurd HA.out (by simp [spec_MakeDelta.l0])
          | succ k2 =>
            have H := HA.out
            clear HA
            simp only [spec_MakeDelta.l0] at H
            by_cases c8 : x6_2 < (l1.length : Int)
            · rw [if_pos c8] at H
              have c8b0 : decide (x6_2 < (l1.length : Int)) = true := decide_eq_true c8
              clear c8
              replace H := Option.bind_eq_some_iff.mp H
              obtain ⟨⟨t116, t117⟩, A90, H⟩ := H
              replace H : (if t117 ≥ 6 then (if x5_2.length < 2932031007402 then (spec_MakeDelta.l0 k2 l0 l1 (x5_2 ++ [(⟨1, t116, t117, ([] : List Int)⟩ : S62)]) (wrap64 (x6_2 + t117))) else (none)) else (if (wrap64 ((x5_2.length : Int) - 1)) < 0 then (if x5_2.length < 2932031007402 then ((some (x5_2 ++ [(⟨2, 0, 0, ([] : List Int)⟩ : S62)] : List (S62))).bind fun y121 => (if 0 ≤ (wrap64 ((wrap64 ((x5_2.length : Int) - 1)) + 1)) then (if (wrap64 ((wrap64 ((x5_2.length : Int) - 1)) + 1)) < (y121.length : Int) then (if 0 ≤ x6_2 then (if ((rd_T62 y121 (wrap64 ((wrap64 ((x5_2.length : Int) - 1)) + 1))).f3).length < 140737488355328 then (spec_MakeDelta.l0 k2 l0 l1 (y121.set ((wrap64 ((wrap64 ((x5_2.length : Int) - 1)) + 1)) : Int).toNat (⟨(rd_T62 y121 (wrap64 ((wrap64 ((x5_2.length : Int) - 1)) + 1))).f0, (rd_T62 y121 (wrap64 ((wrap64 ((x5_2.length : Int) - 1)) + 1))).f1, (rd_T62 y121 (wrap64 ((wrap64 ((x5_2.length : Int) - 1)) + 1))).f2, (((rd_T62 y121 (wrap64 ((wrap64 ((x5_2.length : Int) - 1)) + 1))).f3) ++ [rd l1 x6_2])⟩ : S62)) (wrap64 (x6_2 + 1))) else (none)) else (none)) else (none)) else (none))) else (none)) else (if 0 ≤ (wrap64 ((x5_2.length : Int) - 1)) then (if (wrap64 ((x5_2.length : Int) - 1)) < (x5_2.length : Int) then (if ((rd_T62 x5_2 (wrap64 ((x5_2.length : Int) - 1))).f0) = 2 then (if 0 ≤ x6_2 then (if ((rd_T62 x5_2 (wrap64 ((x5_2.length : Int) - 1))).f3).length < 140737488355328 then (spec_MakeDelta.l0 k2 l0 l1 (x5_2.set ((wrap64 ((x5_2.length : Int) - 1)) : Int).toNat (⟨(rd_T62 x5_2 (wrap64 ((x5_2.length : Int) - 1))).f0, (rd_T62 x5_2 (wrap64 ((x5_2.length : Int) - 1))).f1, (rd_T62 x5_2 (wrap64 ((x5_2.length : Int) - 1))).f2, (((rd_T62 x5_2 (wrap64 ((x5_2.length : Int) - 1))).f3) ++ [rd l1 x6_2])⟩ : S62)) (wrap64 (x6_2 + 1))) else (none)) else (none)) else (if x5_2.length < 2932031007402 then ((some (x5_2 ++ [(⟨2, 0, 0, ([] : List Int)⟩ : S62)] : List (S62))).bind fun y137 => (if 0 ≤ (wrap64 ((wrap64 ((x5_2.length : Int) - 1)) + 1)) then (if (wrap64 ((wrap64 ((x5_2.length : Int) - 1)) + 1)) < (y137.length : Int) then (if 0 ≤ x6_2 then (if ((rd_T62 y137 (wrap64 ((wrap64 ((x5_2.length : Int) - 1)) + 1))).f3).length < 140737488355328 then (spec_MakeDelta.l0 k2 l0 l1 (y137.set ((wrap64 ((wrap64 ((x5_2.length : Int) - 1)) + 1)) : Int).toNat (⟨(rd_T62 y137 (wrap64 ((wrap64 ((x5_2.length : Int) - 1)) + 1))).f0, (rd_T62 y137 (wrap64 ((wrap64 ((x5_2.length : Int) - 1)) + 1))).f1, (rd_T62 y137 (wrap64 ((wrap64 ((x5_2.length : Int) - 1)) + 1))).f2, (((rd_T62 y137 (wrap64 ((wrap64 ((x5_2.length : Int) - 1)) + 1))).f3) ++ [rd l1 x6_2])⟩ : S62)) (wrap64 (x6_2 + 1))) else (none)) else (none)) else (none)) else (none))) else (none))) else (none)) else (none)))) = some r := H
              have A9 := Aside0.mk A90
              clear A90
              by_cases c10 : t117 ≥ 6
              · rw [if_pos c10] at H
                have c10b0 : decide (6 ≤ t117) = true := decide_eq_true c10
                clear c10
                by_cases c11 : x5_2.length < 2932031007402
                · rw [if_pos c11] at H
                  have LMc11 := Aside0.mk c11
                  clear c11
                  obtain ⟨y118, hy118⟩ : ∃ y_ : List (S62), y_ = (x5_2 ++ [(⟨1, t116, t117, ([] : List Int)⟩ : S62)]) := ⟨_, rfl⟩
                  replace H : (spec_MakeDelta.l0 k2 l0 l1 y118 (wrap64 (x6_2 + t117))) = some r := by first | (rw [hy118]; with_reducible exact H) | (have H2_ := (Option.bind_some _ _).symm.trans H; rw [hy118]; with_reducible exact H2_) | (have H2_ := (Option.bind_some _ _).symm.trans H; with_reducible exact H2_) | with_reducible exact H | (rw [hy118]; exact H) | exact H
                  have Ny118 := Aside0.mk hy118
                  clear hy118
                  have H' := Aside0.mk H
                  clear H
                  go_wp2_with (first | ((with_reducible refine gate_callee (f := 47) rfl ?_); refine goesL_ (some 28) rfl rfl Try.func47 (by kernel_rfl) rfl #[.slice A0 l0.length c0, .slice A1 l1.length c1, .int .i64 x6_2] rfl (by (try simp only [List.map_toArray, List.map_cons, List.map_nil]); first | done | rfl | (simp only [List.length_drop, List.length_take]; rfl)) ?_; (with_reducible refine (spec_l14Find.calls k2 _ _ l0 _ _ l1 x6_2 t116 t117 _ ?side1 ?side2 ?side3 ?side4 A9.out).mono ?_); (case side1 => repeat (first | exact (Kd.C_below HR0.out HB.out) | (with_reducible refine Kd.C_alloc ?_ _) | (with_reducible refine Kd.C_drewN ?_ _) | (with_reducible refine Kd.C_drew ?_))); (case side2 => exact HC0.out); (case side3 => repeat (first | exact (Kd.C_below HR1.out HB.out) | (with_reducible refine Kd.C_alloc ?_ _) | (with_reducible refine Kd.C_drewN ?_ _) | (with_reducible refine Kd.C_drew ?_))); (case side4 => exact HC1.out); rintro e w' ⟨rfl, ⟨nd, rfl⟩⟩; refine ⟨_, rfl, ?_⟩) | ((with_reducible refine gate_builtin (b := .append) (xs := #[.tmp 33, .tmp 37]) rfl ?_); (try (refine gate_guard (by rfl) ?_; dsimp only)); at_builtin; refine Kd.S_append k62 (w0 := w) w.heap.size rfl (.tmp 33) (.tmp 37) 23 62 (.agg #[(.int .i64 0), (.int .i64 0), (.int .i64 0), (.slice none 0 0)]) 48 rfl Try.underlying23 info62 rfl (by decide) (by omega) u5 x5_2 (⟨1, t116, t117, ([] : List Int)⟩ : S62) [.int .i64 1, .int .i64 t116, .int .i64 t117, .slice none 0 0] (fun _ => True) (fun _ => False) rfl rfl ?aP (fun k_ hk_ => hk_.elim) ?aF ?aO ?aB ?aS ?aL ?_; (case aP => exact k62_mkM _ _ _ (⟨1, t116, t117, ([] : List Int)⟩ : S62) (Kd.R_nil _ _ _ _ _)); (case aB => exact (by repeat (first | (with_reducible first | exact HB.out | apply below_alloc | apply pw_below_drewN | apply below_drew1) | exact HB.out))); (case aF => exact (fun _ _ => trivial)); (case aO => exact (by (with_reducible repeat (first | apply Kd.S_alloc | apply Kd.S_drewN | apply Kd.S_drew)); exact Kd.S_mono HO_5.out (fun k_ hk => ⟨trivial, fun e_ => e_⟩))); (case aS => exact (below_size (by repeat (first | (with_reducible first | exact HB.out | apply below_alloc | apply pw_below_drewN | apply below_drew1) | exact HB.out)))); (case aL => have := LMc11.out; omega); intro v119 w12 ho hb hg hat; rw [← Ny118.out] at ho; have n0_ := Aside0.mk (hb); have n1_ := Aside0.mk (ho); clear HB; clear HO_5; have HB := n0_; have HO120 := n1_; clear n0_ n1_; clear ho hb hg hat))
                  go_roundg k2
                  case measure => have := HJ2.out; have := HK2.out; omega
                  case rel => exact ⟨(y118), (wrap64 (x6_2 + t117)), (by first | rfl | (simp; done) | (simp [*]; done)), H', ⟨by have := HJ2.out; have := HK2.out; omega⟩, ⟨by (with_reducible repeat (first | apply Kd.S_alloc | apply Kd.S_drewN | apply Kd.S_drew)); exact HO120.out⟩, ⟨by repeat (first | (with_reducible first | exact HB.out | apply below_alloc | apply pw_below_drewN | apply below_drew1) | exact HB.out)⟩⟩
                · rw [if_neg c11] at H
                  exact absurd H (by simp)
              · rw [if_neg c10] at H
                have c10b0 : decide (6 ≤ t117) = false := decide_eq_false c10
                clear c10
                by_cases c13 : (wrap64 ((x5_2.length : Int) - 1)) < 0
                · rw [if_pos c13] at H
                  have c13b0 : decide ((wrap64 ((x5_2.length : Int) - 1)) < 0) = true := decide_eq_true c13
                  clear c13
                  by_cases c14 : x5_2.length < 2932031007402
                  · rw [if_pos c14] at H
                    have LMc14 := Aside0.mk c14
                    clear c14
                    obtain ⟨y121, hy121⟩ : ∃ y_ : List (S62), y_ = (x5_2 ++ [(⟨2, 0, 0, ([] : List Int)⟩ : S62)]) := ⟨_, rfl⟩
                    replace H : (if 0 ≤ (wrap64 ((wrap64 ((x5_2.length : Int) - 1)) + 1)) then (if (wrap64 ((wrap64 ((x5_2.length : Int) - 1)) + 1)) < (y121.length : Int) then (if 0 ≤ x6_2 then (if ((rd_T62 y121 (wrap64 ((wrap64 ((x5_2.length : Int) - 1)) + 1))).f3).length < 140737488355328 then (spec_MakeDelta.l0 k2 l0 l1 (y121.set ((wrap64 ((wrap64 ((x5_2.length : Int) - 1)) + 1)) : Int).toNat (⟨(rd_T62 y121 (wrap64 ((wrap64 ((x5_2.length : Int) - 1)) + 1))).f0, (rd_T62 y121 (wrap64 ((wrap64 ((x5_2.length : Int) - 1)) + 1))).f1, (rd_T62 y121 (wrap64 ((wrap64 ((x5_2.length : Int) - 1)) + 1))).f2, (((rd_T62 y121 (wrap64 ((wrap64 ((x5_2.length : Int) - 1)) + 1))).f3) ++ [rd l1 x6_2])⟩ : S62)) (wrap64 (x6_2 + 1))) else (none)) else (none)) else (none)) else (none)) = some r := by first | (rw [hy121]; with_reducible exact H) | (have H2_ := (Option.bind_some _ _).symm.trans H; rw [hy121]; with_reducible exact H2_) | (have H2_ := (Option.bind_some _ _).symm.trans H; with_reducible exact H2_) | with_reducible exact H | (rw [hy121]; exact H) | exact H
                    have Ny121 := Aside0.mk hy121
                    clear hy121
                    obtain ⟨ji15, hji15⟩ : ∃ j_ : Int, (wrap64 ((wrap64 ((x5_2.length : Int) - 1)) + 1)) = j_ := ⟨_, rfl⟩
                    replace H : (if 0 ≤ (ji15) then (if (ji15) < (y121.length : Int) then (if 0 ≤ x6_2 then (if ((rd_T62 y121 (ji15)).f3).length < 140737488355328 then (spec_MakeDelta.l0 k2 l0 l1 (y121.set ((ji15) : Int).toNat (⟨(rd_T62 y121 (ji15)).f0, (rd_T62 y121 (ji15)).f1, (rd_T62 y121 (ji15)).f2, (((rd_T62 y121 (ji15)).f3) ++ [rd l1 x6_2])⟩ : S62)) (wrap64 (x6_2 + 1))) else (none)) else (none)) else (none)) else (none)) = some r := by first | (rw [hji15] at H; exact H) | (simp only [hji15] at H ⊢; exact H)
                    (try rw [hji15] at A9)
                    have hji15w : (IntKind.i64.wrap ((wrap64 ((x5_2.length : Int) - 1)) + 1)) = ji15 := (i64_w _).trans hji15
                    by_cases c16 : 0 ≤ (ji15)
                    · rw [if_pos c16] at H
                      have c16b0 : decide (0 ≤ (ji15)) = true := decide_eq_true c16
                      clear c16
                      by_cases c17 : (ji15) < (y121.length : Int)
                      · rw [if_pos c17] at H
                        have c17b0 : decide ((ji15) < (y121.length : Int)) = true := decide_eq_true c17
                        clear c17
                        by_cases c18 : 0 ≤ x6_2
                        · rw [if_pos c18] at H
                          have c18b0 : decide (0 ≤ x6_2) = true := decide_eq_true c18
                          clear c18
                          by_cases c19 : ((rd_T62 y121 (ji15)).f3).length < 140737488355328
                          · rw [if_pos c19] at H
                            have LMc19 := Aside0.mk c19
                            clear c19
                            obtain ⟨y126, hy126⟩ : ∃ y_ : List Int, y_ = (((rd_T62 y121 (ji15)).f3) ++ [rd l1 x6_2]) := ⟨_, rfl⟩
                            replace H : (spec_MakeDelta.l0 k2 l0 l1 (y121.set ((ji15) : Int).toNat (⟨(rd_T62 y121 (ji15)).f0, (rd_T62 y121 (ji15)).f1, (rd_T62 y121 (ji15)).f2, y126⟩ : S62)) (wrap64 (x6_2 + 1))) = some r := by first | (rw [hy126]; with_reducible exact H) | (have H2_ := (Option.bind_some _ _).symm.trans H; rw [hy126]; with_reducible exact H2_) | (have H2_ := (Option.bind_some _ _).symm.trans H; with_reducible exact H2_) | with_reducible exact H | (rw [hy126]; exact H) | exact H
                            have Ny126 := Aside0.mk hy126
                            clear hy126
                            obtain ⟨y129, hy129⟩ : ∃ y_ : List (S62), y_ = (y121.set ((ji15) : Int).toNat (⟨(rd_T62 y121 (ji15)).f0, (rd_T62 y121 (ji15)).f1, (rd_T62 y121 (ji15)).f2, y126⟩ : S62)) := ⟨_, rfl⟩
                            replace H : (spec_MakeDelta.l0 k2 l0 l1 y129 (wrap64 (x6_2 + 1))) = some r := by first | (rw [hy129]; with_reducible exact H) | (have H2_ := (Option.bind_some _ _).symm.trans H; rw [hy129]; with_reducible exact H2_) | (have H2_ := (Option.bind_some _ _).symm.trans H; with_reducible exact H2_) | with_reducible exact H | (rw [hy129]; exact H) | exact H
                            have Ny129 := Aside0.mk hy129
                            clear hy129
                            have H' := Aside0.mk H
                            clear H
                            try go_wp2_with (first | ((with_reducible refine gate_callee (f := 47) rfl ?_); refine goesL_ (some 28) rfl rfl Try.func47 (by kernel_rfl) rfl #[.slice A0 l0.length c0, .slice A1 l1.length c1, .int .i64 x6_2] rfl (by (try simp only [List.map_toArray, List.map_cons, List.map_nil]); first | done | rfl | (simp only [List.length_drop, List.length_take]; rfl)) ?_; (with_reducible refine (spec_l14Find.calls k2 _ _ l0 _ _ l1 x6_2 t116 t117 _ ?side1 ?side2 ?side3 ?side4 A9.out).mono ?_); (case side1 => repeat (first | exact (Kd.C_below HR0.out HB.out) | (with_reducible refine Kd.C_alloc ?_ _) | (with_reducible refine Kd.C_drewN ?_ _) | (with_reducible refine Kd.C_drew ?_))); (case side2 => exact HC0.out); (case side3 => repeat (first | exact (Kd.C_below HR1.out HB.out) | (with_reducible refine Kd.C_alloc ?_ _) | (with_reducible refine Kd.C_drewN ?_ _) | (with_reducible refine Kd.C_drew ?_))); (case side4 => exact HC1.out); rintro e w' ⟨rfl, ⟨nd, rfl⟩⟩; refine ⟨_, rfl, ?_⟩; (try (rw [drewN_self wr]; generalize hq_ : World.drewN wr _ = wr; have n0_ : Aside0 (Kd.S k62 62 wr w.heap.size (fun _ => True) u5 x5_2) := ⟨by rw [← hq_]; exact (by (with_reducible repeat (first | apply Kd.S_alloc | apply Kd.S_drewN | apply Kd.S_drew)); exact HO_5.out)⟩; have n1_ : Aside0 (Below w.heap.size w wr) := ⟨by rw [← hq_]; exact (by repeat (first | (with_reducible first | exact HB.out | apply below_alloc | apply pw_below_drewN | apply below_drew1) | exact HB.out))⟩; clear HO_5 HB hq_; have HO_5 := n0_; have HB := n1_; clear n0_ n1_)); obtain ⟨Ao21, co21, eo21⟩ := Kd.S_slice HO_5.out; subst eo21) | ((with_reducible refine gate_builtin (b := .append) (xs := #[.tmp 55, .tmp 57]) rfl ?_); (try (refine gate_guard (by rfl) ?_; dsimp only)); at_builtin; refine Kd.S_append k62 (w0 := w) w.heap.size rfl (.tmp 55) (.tmp 57) 23 62 (.agg #[(.int .i64 0), (.int .i64 0), (.int .i64 0), (.slice none 0 0)]) 48 rfl Try.underlying23 info62 rfl (by decide) (by omega) (.slice Ao21 x5_2.length co21) x5_2 (⟨2, 0, 0, ([] : List Int)⟩ : S62) [.int .i64 2, .int .i64 0, .int .i64 0, .slice none 0 0] (fun _ => True) (fun _ => False) rfl rfl ?aP (fun k_ hk_ => hk_.elim) ?aF ?aO ?aB ?aS ?aL ?_; (case aP => exact k62_mkM _ _ _ (⟨2, 0, 0, ([] : List Int)⟩ : S62) (Kd.R_nil _ _ _ _ _)); (case aB => exact (by repeat (first | (with_reducible first | exact HB.out | apply below_alloc | apply pw_below_drewN | apply below_drew1) | exact HB.out))); (case aF => exact (fun _ _ => trivial)); (case aO => exact (by (with_reducible repeat (first | apply Kd.S_alloc | apply Kd.S_drewN | apply Kd.S_drew)); exact Kd.S_mono HO_5.out (fun k_ hk => ⟨trivial, fun e_ => e_⟩))); (case aS => exact (below_size (by repeat (first | (with_reducible first | exact HB.out | apply below_alloc | apply pw_below_drewN | apply below_drew1) | exact HB.out)))); (case aL => have := LMc14.out; omega); intro v122 w22 ho hb hg hat; rw [← Ny121.out] at ho; have n0_ := Aside0.mk (hb); have n1_ := Aside0.mk (ho); clear HB; clear HO_5; have HB := n0_; have HO123 := n1_; clear n0_ n1_; clear ho hb hg hat))
                            have n0_ := Aside0.mk (Kd.S_drew HO123.out)
                            have n1_ := Aside0.mk (below_drew1 HB.out)
                            clear HO123
                            clear HB
                            have HO123 := n0_
                            have HB := n1_
                            clear n0_ n1_
                            obtain ⟨Ao24, co24, eo24⟩ := Kd.S_slice HO123.out
                            (first | subst eo24 | (injection eo24 with f1_ f2_ f3_; have f4_ := f1_.symm; have f5_ := f3_.symm; clear f1_ f2_ f3_; subst f4_; subst f5_))
                            have p124 : 0 ≤ ((ji15) : Int) := of_decide_eq_true (by first | (with_reducible assumption) | assumption)
                            have q124 : (ji15) < (y121.length : Int) := of_decide_eq_true (by first | (with_reducible assumption) | assumption)
                            obtain ⟨ad124, A124_3, c124_3, e124, hx124_0, hx124_1, hx124_2, hx124_3, hl124_3, hi124_3⟩ := at_T62 (Kd.S_reads' HO123.out).2.2 (ji15) p124 q124
                            cases e124
                            obtain ⟨ce124, hce124, hMe124, hcc124⟩ := Kd.S_get HO123.out z62 (ji15) p124 (by first | exact q124 | exact of_decide_eq_true (by first | (with_reducible assumption) | assumption) | (have e_ := (Kd.S_reads' HO123.out).1; omega))
                            obtain ⟨ve124_3, rfl, ge124_3⟩ := k62_openM hMe124
                            have hv124_3 := hcc124 3 _ rfl
                            rw [add_field _ _ 3 (by omega)] at hv124_3
                            replace hv124_3 := Option.some.inj (hv124_3.symm.trans hx124_3)
                            rw [hv124_3] at ge124_3
                            have HL124_3 := Aside0.mk (show Kd.R (Kd.int .u8) 5 _ _ _ _ ((rd_T62 y121 (ji15)).f3) from ge124_3)
                            clear hv124_3 ge124_3
                            have HX124_3 := Aside0.mk hx124_3
                            clear hcc124 hce124
                            have HR124_3 := Aside0.mk hi124_3
                            have HC124_3 := Aside0.mk hl124_3
                            clear hi124_3 hl124_3
                            replace p124 := eq_true p124
                            replace q124 := eq_true q124
                            have p125 : 0 ≤ (x6_2 : Int) := of_decide_eq_true (by first | (with_reducible assumption) | assumption)
                            have q125 : x6_2 < (l1.length : Int) := of_decide_eq_true (by first | (with_reducible assumption) | assumption)
                            obtain ⟨ad125, e125, hx125_0⟩ := Kd.at_int HR1.out x6_2 p125 q125
                            have hw125_0 := hx125_0
                            cases e125
                            try (replace hx125_0 := (HB.out.cell (World.block_lt_of_cell? w _ hx125_0)).trans hx125_0)
                            replace p125 := eq_true p125
                            replace q125 := eq_true q125
                            obtain ⟨go25, co25, eo25, gb25, gl25, cl25, HG25⟩ := Kd.S_form HO123.out (by have h_ : ((ji15) : Int) < ((y121.length : Int) : Int) := of_decide_eq_true (by first | (with_reducible assumption) | assumption); have h2_ : 0 ≤ ((ji15) : Int) := (of_decide_eq_true (by first | (with_reducible assumption) | assumption)); omega)
                            (first | cases eo25 | (injection eo25 with ea_ en_ ec_; (first | subst ea_ | (injection ea_ with ea_; subst ea_)); subst ec_; clear en_))
                            have GB25 := Aside0.mk gb25
                            have GG25 := Aside0.mk HG25
                            clear gb25 gl25 HG25
                            (first | simp only [add_plain] at hx124_0 | skip)
                            (first | simp only [add_plain] at hx124_1 | skip)
                            (first | simp only [add_plain] at hx124_2 | skip)
                            (first | simp only [add_plain] at hx124_3 | skip)
                            obtain ⟨oki25, ce25, hcl25, hM25, hcc25, _, _, hH25⟩ := Kd.S_elem HO123.out z62 ((ji15) : Int) (of_decide_eq_true (by first | (with_reducible assumption) | assumption)) (by have h_ : ((ji15) : Int) < ((y121.length : Int) : Int) := of_decide_eq_true (by first | (with_reducible assumption) | assumption); first | exact h_ | (have e_ := (Kd.S_reads' HO123.out).1; omega) | simpa using h_)
                            obtain ⟨ve25_3, rfl, ge25_3⟩ := k62_openM hM25
                            have hv25 := hcc25 3 _ rfl
                            have hX25 := HX124_3.out
                            (try simp only [add_plain] at hX25)
                            (try simp only [Nat.add_zero] at hv25)
                            replace hv25 := Option.some.inj (hv25.symm.trans hX25)
                            subst hv25
                            clear hX25 hcc25 hcl25
                            have UU25 := Aside0.mk (show Kd.R (Kd.int .u8) 5 _ w.heap.size oki25 (.slice A124_3 ((rd_T62 y121 (ji15)).f3).length c124_3) ((rd_T62 y121 (ji15)).f3) from ge25_3)
                            have HH25 := Aside0.mk hH25
                            have HN25 := Aside0.mk (Kd.S_reads' HO123.out).1
                            clear hH25 ge25_3
                            refine start_ (n := 16) (S := fun w' => w'.cell? ⟨go25, (((ji15)).toNat * 4), none⟩ = some (.int .i64 ((rd_T62 y121 (ji15)).f0)) ∧ w'.cell? ⟨go25, (((ji15)).toNat * 4) + 1, none⟩ = some (.int .i64 ((rd_T62 y121 (ji15)).f1)) ∧ w'.cell? ⟨go25, (((ji15)).toNat * 4) + 2, none⟩ = some (.int .i64 ((rd_T62 y121 (ji15)).f2)) ∧ w'.cell? ⟨go25, (((ji15)).toNat * 4) + 3, none⟩ = some (.slice A124_3 ((rd_T62 y121 (ji15)).f3).length c124_3) ∧ w'.cell? (ad125.add (x6_2).toNat) = some (.int .u8 (rd l1 x6_2))) (ds := [15]) #[false, false, false, false, false, false, false, false, false, false, false, false, false, false, false, false] (by kernel_rfl) rfl rfl ⟨hx124_0, hx124_1, hx124_2, hx124_3, ((HB.out.cell (World.block_lt_of_cell? w _ hw125_0)).trans hw125_0)⟩ (fun hHeld => ?_); refine with_tabW spec_MakeDelta.tab14 spec_MakeDelta.bits14 (fun HT_ HW_ => ?_)
                            generalize w22.drew = w23 at HO123 HB GG25 HH25 HL124_3 HR124_3 HX124_3 UU25 hx124_0 hx124_1 hx124_2 hx124_3 hx125_0 hHeld ⊢
                            refine pure_ (i := 0) (N := some 61) (v := ?_) (a' := ?_) #[true, false, false, false, false, false, false, false, false, false, false, false, false, false, false, false] rfl rfl (any_of HT_.out (by kernel_rfl)) (fun _ _ _ h => h) (Or.inl ⟨by rfl, ?_⟩) ?_ ?_
                            rotate_left
                            · intro w'
                              go_simp
                              with_reducible rfl
                            rotate_left
                            · simp only [Act.put, List.setIfInBounds_toArray, List.set_cons_zero, List.set_cons_succ, i64_w, i32_w]
                              rfl
                            refine pure_ (i := 1) (N := some 62) (v := ?_) (a' := ?_) #[true, true, false, false, false, false, false, false, false, false, false, false, false, false, false, false] rfl rfl (any_of HT_.out (by kernel_rfl)) (fun _ _ _ h => h) (Or.inl ⟨by rfl, ?_⟩) ?_ ?_
                            rotate_left
                            · intro w'
                              go_simp
                              with_reducible rfl
                            rotate_left
                            · simp only [Act.put, List.setIfInBounds_toArray, List.set_cons_zero, List.set_cons_succ, i64_w, i32_w]
                              rfl
                            refine pure_ (i := 2) (N := some 63) (v := ?_) (a' := ?_) #[true, true, true, false, false, false, false, false, false, false, false, false, false, false, false, false] rfl rfl (any_of HT_.out (by kernel_rfl)) (fun _ _ _ h => h) (Or.inl ⟨by rfl, ?_⟩) ?_ ?_
                            rotate_left
                            · intro w'
                              go_simp
                              with_reducible rfl
                            rotate_left
                            · simp only [Act.put, List.setIfInBounds_toArray, List.set_cons_zero, List.set_cons_succ, i64_w, i32_w]
                              rfl
                            refine pure_ (i := 3) (N := some 64) (v := ?_) (a' := ?_) #[true, true, true, true, false, false, false, false, false, false, false, false, false, false, false, false] rfl rfl (any_of HT_.out (by kernel_rfl)) (fun _ _ _ h => h) (Or.inl ⟨by rfl, ?_⟩) ?_ ?_
                            rotate_left
                            · intro w'
                              go_simp
                              with_reducible rfl
                            rotate_left
                            · simp only [Act.put, List.setIfInBounds_toArray, List.set_cons_zero, List.set_cons_succ, i64_w, i32_w]
                              rfl
                            refine pure_ (i := 4) (N := some 65) (v := ?_) (a' := ?_) #[true, true, true, true, true, false, false, false, false, false, false, false, false, false, false, false] rfl rfl (any_of HT_.out (by kernel_rfl)) (fun _ _ _ h => h) (Or.inl ⟨by rfl, ?_⟩) ?_ ?_
                            rotate_left
                            · intro w'
                              go_simp
                              with_reducible rfl
                            rotate_left
                            · simp only [Act.put, List.setIfInBounds_toArray, List.set_cons_zero, List.set_cons_succ, i64_w, i32_w]
                              rfl
                            refine pure_ (i := 5) (N := some 66) (v := ?_) (a' := ?_) #[true, true, true, true, true, true, false, false, false, false, false, false, false, false, false, false] rfl rfl (any_of HT_.out (by kernel_rfl)) (fun _ _ _ h => h) (Or.inl ⟨by rfl, ?_⟩) ?_ ?_
                            rotate_left
                            · intro w'
                              go_simp
                              with_reducible rfl
                            rotate_left
                            · simp only [Act.put, List.setIfInBounds_toArray, List.set_cons_zero, List.set_cons_succ, i64_w, i32_w]
                              rfl
                            refine pure_ (i := 7) (N := some 68) (v := ?_) (a' := ?_) #[true, true, true, true, true, true, false, true, false, false, false, false, false, false, false, false] rfl rfl (any_of HT_.out (by kernel_rfl)) (fun _ _ _ h => h) (Or.inl ⟨by rfl, ?_⟩) ?_ ?_
                            rotate_left
                            · intro w'
                              go_simp
                              with_reducible rfl
                            rotate_left
                            · simp only [Act.put, List.setIfInBounds_toArray, List.set_cons_zero, List.set_cons_succ, i64_w, i32_w]
                              rfl
                            refine pure_ (i := 8) (N := some 69) (v := ?_) (a' := ?_) #[true, true, true, true, true, true, false, true, true, false, false, false, false, false, false, false] rfl rfl (any_of HT_.out (by kernel_rfl)) (fun _ _ _ h => h) (Or.inl ⟨by rfl, ?_⟩) ?_ ?_
                            rotate_left
                            · intro w'
                              go_simp
                              with_reducible rfl
                            rotate_left
                            · simp only [Act.put, List.setIfInBounds_toArray, List.set_cons_zero, List.set_cons_succ, i64_w, i32_w]
                              rfl
                            refine pure_ (i := 9) (N := some 70) (v := ?_) (a' := ?_) #[true, true, true, true, true, true, false, true, true, true, false, false, false, false, false, false] rfl rfl (any_of HT_.out (by kernel_rfl)) (fun _ _ _ h => h) (Or.inl ⟨by rfl, ?_⟩) ?_ ?_
                            rotate_left
                            · intro w'
                              go_simp
                              with_reducible rfl
                            rotate_left
                            · simp only [Act.put, List.setIfInBounds_toArray, List.set_cons_zero, List.set_cons_succ, i64_w, i32_w]
                              rfl
                            refine take_ (i := 6) (N := some 67) (v := ?_) (a' := ?_) #[true, true, true, true, true, true, true, true, true, true, false, false, false, false, false, false] rfl rfl (take_ofW HT_.out HW_.out (by kernel_rfl)) (fun _ _ _ h => h) (Or.inl ⟨by rfl, ?_⟩) hHeld ?_ ?_
                            rotate_left
                            · rintro w' ⟨s0, s1, s2, s3, s4⟩
                              go_simp
                              with_reducible rfl
                            rotate_left
                            · simp only [Act.put, List.setIfInBounds_toArray, List.set_cons_zero, List.set_cons_succ, i64_w, i32_w]
                              rfl
                            refine take_ (i := 10) (N := some 71) (v := ?_) (a' := ?_) #[true, true, true, true, true, true, true, true, true, true, true, false, false, false, false, false] rfl rfl (take_ofW HT_.out HW_.out (by kernel_rfl)) (fun _ _ _ h => h) (Or.inl ⟨by rfl, ?_⟩) hHeld ?_ ?_
                            rotate_left
                            · rintro w' ⟨s0, s1, s2, s3, s4⟩
                              go_simp
                              with_reducible rfl
                            rotate_left
                            · simp only [Act.put, List.setIfInBounds_toArray, List.set_cons_zero, List.set_cons_succ, i64_w, i32_w]
                              rfl
                            refine one_ (i := 11) (N := some 72) #[true, true, true, true, true, true, true, true, true, true, true, true, false, false, false, false] rfl rfl (one_of HT_.out (by kernel_rfl)) (by decide) (fun K hK => ?_)
                            refine value_ (w1 := ?_) (v := ?_) (by rfl) rfl ?_ ?_
                            rotate_left 2
                            · go_simp
                              constructor
                              · rfl
                              · rfl
                            refine hK.out _ _ ⟨(World.cell?_alloc_lt _ _ _ (World.block_lt_of_cell? _ _ (hHeld.1))).trans (hHeld.1), (World.cell?_alloc_lt _ _ _ (World.block_lt_of_cell? _ _ (hHeld.2.1))).trans (hHeld.2.1), (World.cell?_alloc_lt _ _ _ (World.block_lt_of_cell? _ _ (hHeld.2.2.1))).trans (hHeld.2.2.1), (World.cell?_alloc_lt _ _ _ (World.block_lt_of_cell? _ _ (hHeld.2.2.2.1))).trans (hHeld.2.2.2.1), (World.cell?_alloc_lt _ _ _ (World.block_lt_of_cell? _ _ (((HB.out.cell (World.block_lt_of_cell? w _ hw125_0)).trans hw125_0)))).trans (((HB.out.cell (World.block_lt_of_cell? w _ hw125_0)).trans hw125_0))⟩ (fun hHeld => ?_)
                            clear hK K
                            refine norm_ (a' := ?_) ?_ ?_
                            rotate_left
                            · show Act.put _ (some 72) _ = _
                              simp only [Act.put, List.setIfInBounds_toArray, List.set_cons_zero, List.set_cons_succ, i64_w, i32_w]
                              rfl
                            refine one_ (i := 12) (N := some 73) #[true, true, true, true, true, true, true, true, true, true, true, true, true, false, false, false] rfl rfl (one_of HT_.out (by kernel_rfl)) (by decide) (fun K hK => ?_)
                            refine Kd.R_append_step (Kd.int .u8) (w0 := w) w.heap.size (by rfl) (.tmp 67) (.tmp 72) 22 5 (.int .u8 0) 1 rfl Try.underlying22 info5 rfl (by decide) (by omega) (.slice A124_3 ((rd_T62 y121 (ji15)).f3).length c124_3) ((rd_T62 y121 (ji15)).f3) (rd l1 x6_2) [.int .u8 (rd l1 x6_2)] (fun k_ => oki25 k_ ∨ ((fun _ => True)) k_ ∧ w23.heap.size ≤ k_) (fun _ => False) rfl rfl ?aP (fun _ hk => hk.elim) ?aF ?aO ?aB ?aS ?aL ?_
                            (case aP => exact rfl)
                            (case aB => exact (by repeat (first | (with_reducible first | exact HB.out | apply below_alloc | apply pw_below_drewN | apply below_drew1) | exact HB.out)))
                            (case aF => exact (fun k_ hk => .inr ⟨trivial, hk⟩))
                            (case aO => exact (by (with_reducible repeat (first | apply Kd.R_alloc | apply Kd.R_drewN | apply Kd.R_drew)); exact Kd.R_mono UU25.out (fun _ hk => .inl hk)))
                            (case aS => exact (below_size (by repeat (first | (with_reducible first | exact HB.out | apply below_alloc | apply pw_below_drewN | apply below_drew1) | exact HB.out))))
                            (case aL => have := LMc19.out; omega)
                            intro v127 w26 ho hb hg hat
                            (first | have HS0_ := cell_grown hg (hHeld.1) (by first | (rw [add_block]; exact (fun e_ => ((HL124_3.out.1 _ e_.symm).2) rfl)) | (show some (Addr.add _ _).block ≠ _; rw [add_block]; exact (fun e_ => ((HL124_3.out.1 _ e_.symm).2) rfl)) | exact (fun e_ => ((HL124_3.out.1 _ e_.symm).2) rfl)) | have HS0_ := cell_grown hg (cell_unalloc (hHeld.1) (by first | (rw [add_block]; exact Kd.S_lt HO123.out _ rfl) | (show (Addr.add _ _).block < _; rw [add_block]; exact Kd.S_lt HO123.out _ rfl) | exact Kd.S_lt HO123.out _ rfl)) (by first | (rw [add_block]; exact (fun e_ => ((HL124_3.out.1 _ e_.symm).2) rfl)) | (show some (Addr.add _ _).block ≠ _; rw [add_block]; exact (fun e_ => ((HL124_3.out.1 _ e_.symm).2) rfl)) | exact (fun e_ => ((HL124_3.out.1 _ e_.symm).2) rfl)))
                            (first | have HS1_ := cell_grown hg (hHeld.2.1) (by first | (rw [add_block]; exact (fun e_ => ((HL124_3.out.1 _ e_.symm).2) rfl)) | (show some (Addr.add _ _).block ≠ _; rw [add_block]; exact (fun e_ => ((HL124_3.out.1 _ e_.symm).2) rfl)) | exact (fun e_ => ((HL124_3.out.1 _ e_.symm).2) rfl)) | have HS1_ := cell_grown hg (cell_unalloc (hHeld.2.1) (by first | (rw [add_block]; exact Kd.S_lt HO123.out _ rfl) | (show (Addr.add _ _).block < _; rw [add_block]; exact Kd.S_lt HO123.out _ rfl) | exact Kd.S_lt HO123.out _ rfl)) (by first | (rw [add_block]; exact (fun e_ => ((HL124_3.out.1 _ e_.symm).2) rfl)) | (show some (Addr.add _ _).block ≠ _; rw [add_block]; exact (fun e_ => ((HL124_3.out.1 _ e_.symm).2) rfl)) | exact (fun e_ => ((HL124_3.out.1 _ e_.symm).2) rfl)))
                            (first | have HS2_ := cell_grown hg (hHeld.2.2.1) (by first | (rw [add_block]; exact (fun e_ => ((HL124_3.out.1 _ e_.symm).2) rfl)) | (show some (Addr.add _ _).block ≠ _; rw [add_block]; exact (fun e_ => ((HL124_3.out.1 _ e_.symm).2) rfl)) | exact (fun e_ => ((HL124_3.out.1 _ e_.symm).2) rfl)) | have HS2_ := cell_grown hg (cell_unalloc (hHeld.2.2.1) (by first | (rw [add_block]; exact Kd.S_lt HO123.out _ rfl) | (show (Addr.add _ _).block < _; rw [add_block]; exact Kd.S_lt HO123.out _ rfl) | exact Kd.S_lt HO123.out _ rfl)) (by first | (rw [add_block]; exact (fun e_ => ((HL124_3.out.1 _ e_.symm).2) rfl)) | (show some (Addr.add _ _).block ≠ _; rw [add_block]; exact (fun e_ => ((HL124_3.out.1 _ e_.symm).2) rfl)) | exact (fun e_ => ((HL124_3.out.1 _ e_.symm).2) rfl)))
                            (first | have HS3_ := cell_grown hg (hHeld.2.2.2.1) (by first | (rw [add_block]; exact (fun e_ => ((HL124_3.out.1 _ e_.symm).2) rfl)) | (show some (Addr.add _ _).block ≠ _; rw [add_block]; exact (fun e_ => ((HL124_3.out.1 _ e_.symm).2) rfl)) | exact (fun e_ => ((HL124_3.out.1 _ e_.symm).2) rfl)) | have HS3_ := cell_grown hg (cell_unalloc (hHeld.2.2.2.1) (by first | (rw [add_block]; exact Kd.S_lt HO123.out _ rfl) | (show (Addr.add _ _).block < _; rw [add_block]; exact Kd.S_lt HO123.out _ rfl) | exact Kd.S_lt HO123.out _ rfl)) (by first | (rw [add_block]; exact (fun e_ => ((HL124_3.out.1 _ e_.symm).2) rfl)) | (show some (Addr.add _ _).block ≠ _; rw [add_block]; exact (fun e_ => ((HL124_3.out.1 _ e_.symm).2) rfl)) | exact (fun e_ => ((HL124_3.out.1 _ e_.symm).2) rfl)))
                            rw [← Ny126.out] at ho
                            have n0_ := Aside0.mk (hb)
                            have n1_ := Aside0.mk (Kd.H_grown (Kd.H_widen (by repeat (first | exact HH25.out | refine Kd.H_alloc ?_ _ | refine Kd.H_drewN ?_ _ | refine Kd.H_drew ?_))) hg (fun k_ e_ => .inl (UU25.out.1 k_ e_)))
                            have n2_ := Aside0.mk (ho)
                            clear HB
                            clear HH25
                            clear HO123
                            clear UU25
                            clear HL124_3
                            have HB := n0_
                            have HH25 := n1_
                            have HO128 := n2_
                            clear n0_ n1_ n2_
                            clear ho hb hg hat
                            have p20 : 0 ≤ ((ji15) : Int) := of_decide_eq_true (by first | (with_reducible assumption) | assumption)
                            have q20 : ((ji15) : Int) < ((y121.length : Int) : Int) := of_decide_eq_true (by first | (with_reducible assumption) | assumption)
                            replace p20 := eq_true p20
                            replace q20 := eq_true q20
                            obtain ⟨Ao29, co29, eo29⟩ := Kd.R_slice HO128.out
                            (first | subst eo29 | (injection eo29 with f1_ f2_ f3_; have f4_ := f1_.symm; have f5_ := f3_.symm; clear f1_ f2_ f3_; subst f4_; subst f5_))
                            obtain ⟨_, _, hraw27, _, _, hcc27, _⟩ := Kd.H_raw HH25.out (of_decide_eq_true (by first | (with_reducible assumption) | assumption)) (by have h_ : ((ji15) : Int) < ((y121.length : Int) : Int) := of_decide_eq_true (by first | (with_reducible assumption) | assumption); first | exact h_ | (have e_ := (HN25.out); omega) | simpa using h_)
                            obtain ⟨_, hfr27⟩ := Kd.H_at HH25.out (of_decide_eq_true (by first | (with_reducible assumption) | assumption)) (by have h_ : ((ji15) : Int) < ((y121.length : Int) : Int) := of_decide_eq_true (by first | (with_reducible assumption) | assumption); first | exact h_ | (have e_ := (HN25.out); omega) | simpa using h_)
                            have hx27_0 := hcc27 3 _ rfl
                            have hf27_0 := hfr27 3
                            (try rw [show (k62).sz = 4 from rfl] at hx27_0)
                            (try rw [show (k62).sz = 4 from rfl] at hf27_0)
                            have HP27 := Kd.S_seg0 HH25.out (of_decide_eq_true (by first | (with_reducible assumption) | assumption)) (by have h_ : ((ji15) : Int) < ((y121.length : Int) : Int) := of_decide_eq_true (by first | (with_reducible assumption) | assumption); first | exact h_ | (have e_ := (HN25.out); omega) | simpa using h_) (seg := [.slice Ao29 y126.length co29]) (j := 3) (show 4 ≤ 4 from by decide) (x' := (⟨(rd_T62 y121 (ji15)).f0, (rd_T62 y121 (ji15)).f1, (rd_T62 y121 (ji15)).f2, y126⟩ : S62)) (k62_mkM _ _ _ (⟨(rd_T62 y121 (ji15)).f0, (rd_T62 y121 (ji15)).f1, (rd_T62 y121 (ji15)).f2, y126⟩ : S62) HO128.out) (fun _ hk => hk)
                            clear hcc27 hfr27
                            have HS27 := HP27.1
                            rw [← Ny129.out] at HS27
                            have HQ27 := Aside0.mk HS27
                            obtain ⟨_, hgg27⟩ := Kd.R_typed hraw27 go25 rfl
                            have GG27_ := Aside0.mk hgg27
                            clear HP27 HS27 hgg27
                            refine hK.out _ _ ⟨HS0_, HS1_, HS2_, HS3_, ((HB.out.cell (World.block_lt_of_cell? w _ hw125_0)).trans hw125_0)⟩ (fun hHeld => ?_)
                            clear hK K
                            refine norm_ (a' := ?_) ?_ ?_
                            rotate_left
                            · show Act.put _ (some 73) _ = _
                              simp only [Act.put, List.setIfInBounds_toArray, List.set_cons_zero, List.set_cons_succ, i64_w, i32_w]
                              rfl
                            refine pure_ (i := 13) (N := some 74) (v := ?_) (a' := ?_) #[true, true, true, true, true, true, true, true, true, true, true, true, true, true, false, false] rfl rfl (any_of HT_.out (by kernel_rfl)) (fun _ _ _ h => h) (Or.inl ⟨by rfl, ?_⟩) ?_ ?_
                            rotate_left
                            · intro w'
                              go_simp
                              with_reducible rfl
                            rotate_left
                            · simp only [Act.put, List.setIfInBounds_toArray, List.set_cons_zero, List.set_cons_succ, i64_w, i32_w]
                              rfl
                            refine pure_ (i := 14) (N := some 75) (v := ?_) (a' := ?_) #[true, true, true, true, true, true, true, true, true, true, true, true, true, true, true, false] rfl rfl (any_of HT_.out (by kernel_rfl)) (fun _ _ _ h => h) (Or.inl ⟨by rfl, ?_⟩) ?_ ?_
                            rotate_left
                            · intro w'
                              go_simp
                              with_reducible rfl
                            rotate_left
                            · simp only [Act.put, List.setIfInBounds_toArray, List.set_cons_zero, List.set_cons_succ, i64_w, i32_w]
                              rfl
                            refine last_ (i := 15) (N := none) #[true, true, true, true, true, true, true, true, true, true, true, true, true, true, true, true] rfl rfl (one_of HT_.out (by kernel_rfl)) (by decide) (fun K hK => ?_)
                            refine skip_ (w1 := ?_) (by rfl) rfl ?_ ?_
                            rotate_left
                            · go_simp
                              rfl
                            refine hK.out _ _ ?_
                            clear hK K
                            refine done_ (done_of HT_.out (by kernel_rfl)) ?_
                            try go_wp2
                            go_roundg k2
                            case measure => have := HJ2.out; have := HK2.out; omega
                            case rel => exact ⟨(y129), (wrap64 (x6_2 + 1)), (by first | rfl | (simp; done) | (simp [*]; done)), H', ⟨by have := HJ2.out; have := HK2.out; omega⟩, ⟨by (with_reducible repeat (first | apply Kd.S_alloc | apply Kd.S_drewN | apply Kd.S_drew)); exact HQ27.out⟩, ⟨by repeat (first | (with_reducible first | exact HB.out | apply below_alloc | apply pw_below_drewN | apply below_drew1 | refine below_set ?_ GB25.out) | exact HB.out)⟩⟩
                          · rw [if_neg c19] at H
                            exact absurd H (by simp)
                        · rw [if_neg c18] at H
                          exact absurd H (by simp)
                      · rw [if_neg c17] at H
                        exact absurd H (by simp)
                    · rw [if_neg c16] at H
                      exact absurd H (by simp)
                  · rw [if_neg c14] at H
                    exact absurd H (by simp)
                · rw [if_neg c13] at H
                  have c13b0 : decide ((wrap64 ((x5_2.length : Int) - 1)) < 0) = false := decide_eq_false c13
                  clear c13
                  obtain ⟨ji30, hji30⟩ : ∃ j_ : Int, (wrap64 ((x5_2.length : Int) - 1)) = j_ := ⟨_, rfl⟩
                  replace H : (if 0 ≤ (ji30) then (if (ji30) < (x5_2.length : Int) then (if ((rd_T62 x5_2 (ji30)).f0) = 2 then (if 0 ≤ x6_2 then (if ((rd_T62 x5_2 (ji30)).f3).length < 140737488355328 then (spec_MakeDelta.l0 k2 l0 l1 (x5_2.set ((ji30) : Int).toNat (⟨(rd_T62 x5_2 (ji30)).f0, (rd_T62 x5_2 (ji30)).f1, (rd_T62 x5_2 (ji30)).f2, (((rd_T62 x5_2 (ji30)).f3) ++ [rd l1 x6_2])⟩ : S62)) (wrap64 (x6_2 + 1))) else (none)) else (none)) else (if x5_2.length < 2932031007402 then ((some (x5_2 ++ [(⟨2, 0, 0, ([] : List Int)⟩ : S62)] : List (S62))).bind fun y137 => (if 0 ≤ (wrap64 ((ji30) + 1)) then (if (wrap64 ((ji30) + 1)) < (y137.length : Int) then (if 0 ≤ x6_2 then (if ((rd_T62 y137 (wrap64 ((ji30) + 1))).f3).length < 140737488355328 then (spec_MakeDelta.l0 k2 l0 l1 (y137.set ((wrap64 ((ji30) + 1)) : Int).toNat (⟨(rd_T62 y137 (wrap64 ((ji30) + 1))).f0, (rd_T62 y137 (wrap64 ((ji30) + 1))).f1, (rd_T62 y137 (wrap64 ((ji30) + 1))).f2, (((rd_T62 y137 (wrap64 ((ji30) + 1))).f3) ++ [rd l1 x6_2])⟩ : S62)) (wrap64 (x6_2 + 1))) else (none)) else (none)) else (none)) else (none))) else (none))) else (none)) else (none)) = some r := by first | (rw [hji30] at H; exact H) | (simp only [hji30] at H ⊢; exact H)
                  (try rw [hji30] at c13b0)
                  (try rw [hji30] at A9)
                  have hji30w : (IntKind.i64.wrap ((x5_2.length : Int) - 1)) = ji30 := (i64_w _).trans hji30
                  by_cases c31 : 0 ≤ (ji30)
                  · rw [if_pos c31] at H
                    have c31b0 : decide (0 ≤ (ji30)) = true := decide_eq_true c31
                    clear c31
                    by_cases c32 : (ji30) < (x5_2.length : Int)
                    · rw [if_pos c32] at H
                      have c32b0 : decide ((ji30) < (x5_2.length : Int)) = true := decide_eq_true c32
                      clear c32
                      by_cases c33 : ((rd_T62 x5_2 (ji30)).f0) = 2
                      · rw [if_pos c33] at H
                        have c33b0 : (((rd_T62 x5_2 (ji30)).f0) == 2) = true := beq_iff_eq.mpr c33
                        have c33b1 : (((rd_T62 x5_2 (ji30)).f0) != 2) = false := bne_eq_false_iff_eq.mpr c33
                        clear c33
                        by_cases c34 : 0 ≤ x6_2
                        · rw [if_pos c34] at H
                          have c34b0 : decide (0 ≤ x6_2) = true := decide_eq_true c34
                          clear c34
                          by_cases c35 : ((rd_T62 x5_2 (ji30)).f3).length < 140737488355328
                          · rw [if_pos c35] at H
                            have LMc35 := Aside0.mk c35
                            clear c35
                            obtain ⟨y133, hy133⟩ : ∃ y_ : List Int, y_ = (((rd_T62 x5_2 (ji30)).f3) ++ [rd l1 x6_2]) := ⟨_, rfl⟩
                            replace H : (spec_MakeDelta.l0 k2 l0 l1 (x5_2.set ((ji30) : Int).toNat (⟨(rd_T62 x5_2 (ji30)).f0, (rd_T62 x5_2 (ji30)).f1, (rd_T62 x5_2 (ji30)).f2, y133⟩ : S62)) (wrap64 (x6_2 + 1))) = some r := by first | (rw [hy133]; with_reducible exact H) | (have H2_ := (Option.bind_some _ _).symm.trans H; rw [hy133]; with_reducible exact H2_) | (have H2_ := (Option.bind_some _ _).symm.trans H; with_reducible exact H2_) | with_reducible exact H | (rw [hy133]; exact H) | exact H
                            have Ny133 := Aside0.mk hy133
                            clear hy133
                            obtain ⟨y136, hy136⟩ : ∃ y_ : List (S62), y_ = (x5_2.set ((ji30) : Int).toNat (⟨(rd_T62 x5_2 (ji30)).f0, (rd_T62 x5_2 (ji30)).f1, (rd_T62 x5_2 (ji30)).f2, y133⟩ : S62)) := ⟨_, rfl⟩
                            replace H : (spec_MakeDelta.l0 k2 l0 l1 y136 (wrap64 (x6_2 + 1))) = some r := by first | (rw [hy136]; with_reducible exact H) | (have H2_ := (Option.bind_some _ _).symm.trans H; rw [hy136]; with_reducible exact H2_) | (have H2_ := (Option.bind_some _ _).symm.trans H; with_reducible exact H2_) | with_reducible exact H | (rw [hy136]; exact H) | exact H
                            have Ny136 := Aside0.mk hy136
                            clear hy136
                            have H' := Aside0.mk H
                            clear H
                            try go_wp2_with (first | ((with_reducible refine gate_callee (f := 47) rfl ?_); refine goesL_ (some 28) rfl rfl Try.func47 (by kernel_rfl) rfl #[.slice A0 l0.length c0, .slice A1 l1.length c1, .int .i64 x6_2] rfl (by (try simp only [List.map_toArray, List.map_cons, List.map_nil]); first | done | rfl | (simp only [List.length_drop, List.length_take]; rfl)) ?_; (with_reducible refine (spec_l14Find.calls k2 _ _ l0 _ _ l1 x6_2 t116 t117 _ ?side1 ?side2 ?side3 ?side4 A9.out).mono ?_); (case side1 => repeat (first | exact (Kd.C_below HR0.out HB.out) | (with_reducible refine Kd.C_alloc ?_ _) | (with_reducible refine Kd.C_drewN ?_ _) | (with_reducible refine Kd.C_drew ?_))); (case side2 => exact HC0.out); (case side3 => repeat (first | exact (Kd.C_below HR1.out HB.out) | (with_reducible refine Kd.C_alloc ?_ _) | (with_reducible refine Kd.C_drewN ?_ _) | (with_reducible refine Kd.C_drew ?_))); (case side4 => exact HC1.out); rintro e w' ⟨rfl, ⟨nd, rfl⟩⟩; refine ⟨_, rfl, ?_⟩; (try (rw [drewN_self wr]; generalize hq_ : World.drewN wr _ = wr; have n0_ : Aside0 (Kd.S k62 62 wr w.heap.size (fun _ => True) u5 x5_2) := ⟨by rw [← hq_]; exact (by (with_reducible repeat (first | apply Kd.S_alloc | apply Kd.S_drewN | apply Kd.S_drew)); exact HO_5.out)⟩; have n1_ : Aside0 (Below w.heap.size w wr) := ⟨by rw [← hq_]; exact (by repeat (first | (with_reducible first | exact HB.out | apply below_alloc | apply pw_below_drewN | apply below_drew1) | exact HB.out))⟩; clear HO_5 HB hq_; have HO_5 := n0_; have HB := n1_; clear n0_ n1_)); obtain ⟨Ao37, co37, eo37⟩ := Kd.S_slice HO_5.out; subst eo37; have p130 : 0 ≤ ((ji30) : Int) := of_decide_eq_true (by first | (with_reducible assumption) | assumption); have q130 : (ji30) < (x5_2.length : Int) := of_decide_eq_true (by first | (with_reducible assumption) | assumption); obtain ⟨ad130, A130_3, c130_3, e130, hx130_0, hx130_1, hx130_2, hx130_3, hl130_3, hi130_3⟩ := at_T62 (Kd.S_reads' HO_5.out).2.2 (ji30) p130 q130; cases e130; obtain ⟨ce130, hce130, hMe130, hcc130⟩ := Kd.S_get HO_5.out z62 (ji30) p130 (by first | exact q130 | exact of_decide_eq_true (by first | (with_reducible assumption) | assumption) | (have e_ := (Kd.S_reads' HO_5.out).1; omega)); obtain ⟨ve130_3, rfl, ge130_3⟩ := k62_openM hMe130; have hv130_3 := hcc130 3 _ rfl; rw [add_field _ _ 3 (by omega)] at hv130_3; replace hv130_3 := Option.some.inj (hv130_3.symm.trans hx130_3); rw [hv130_3] at ge130_3; have HL130_3 := Aside0.mk (show Kd.R (Kd.int .u8) 5 _ _ _ _ ((rd_T62 x5_2 (ji30)).f3) from ge130_3); clear hv130_3 ge130_3; have HX130_3 := Aside0.mk hx130_3; clear hcc130 hce130; have HR130_3 := Aside0.mk hi130_3; have HC130_3 := Aside0.mk hl130_3; clear hi130_3 hl130_3; replace p130 := eq_true p130; replace q130 := eq_true q130))
                            have n0_ := Aside0.mk (Kd.S_drew HO_5.out)
                            have n1_ := Aside0.mk (Kd.R_drew HL130_3.out)
                            have n2_ := Aside0.mk (Kd.C_drew HR130_3.out)
                            have n3_ := Aside0.mk (below_drew1 HB.out)
                            clear HO_5
                            clear HL130_3
                            clear HR130_3
                            clear HB
                            have HO_5 := n0_
                            have HL130_3 := n1_
                            have HR130_3 := n2_
                            have HB := n3_
                            clear n0_ n1_ n2_ n3_
                            have p131 : 0 ≤ ((ji30) : Int) := of_decide_eq_true (by first | (with_reducible assumption) | assumption)
                            have q131 : (ji30) < (x5_2.length : Int) := of_decide_eq_true (by first | (with_reducible assumption) | assumption)
                            obtain ⟨ad131, A131_3, c131_3, e131, hx131_0, hx131_1, hx131_2, hx131_3, hl131_3, hi131_3⟩ := at_T62 (Kd.S_reads' HO_5.out).2.2 (ji30) p131 q131
                            obtain rfl : ad130 = ad131 := (by injection e131)
                            obtain ⟨ce131, hce131, hMe131, hcc131⟩ := Kd.S_get HO_5.out z62 (ji30) p131 (by first | exact q131 | exact of_decide_eq_true (by first | (with_reducible assumption) | assumption) | (have e_ := (Kd.S_reads' HO_5.out).1; omega))
                            obtain ⟨ve131_3, rfl, ge131_3⟩ := k62_openM hMe131
                            have hv131_3 := hcc131 3 _ rfl
                            rw [add_field _ _ 3 (by omega)] at hv131_3
                            replace hv131_3 := Option.some.inj (hv131_3.symm.trans hx131_3)
                            rw [hv131_3] at ge131_3
                            have HL131_3 := Aside0.mk (show Kd.R (Kd.int .u8) 5 _ _ _ _ ((rd_T62 x5_2 (ji30)).f3) from ge131_3)
                            clear hv131_3 ge131_3
                            have HX131_3 := Aside0.mk hx131_3
                            clear hcc131 hce131
                            have HR131_3 := Aside0.mk hi131_3
                            have HC131_3 := Aside0.mk hl131_3
                            clear hi131_3 hl131_3
                            replace p131 := eq_true p131
                            replace q131 := eq_true q131
                            have p132 : 0 ≤ (x6_2 : Int) := of_decide_eq_true (by first | (with_reducible assumption) | assumption)
                            have q132 : x6_2 < (l1.length : Int) := of_decide_eq_true (by first | (with_reducible assumption) | assumption)
                            obtain ⟨ad132, e132, hx132_0⟩ := Kd.at_int HR1.out x6_2 p132 q132
                            have hw132_0 := hx132_0
                            cases e132
                            try (replace hx132_0 := (HB.out.cell (World.block_lt_of_cell? w _ hx132_0)).trans hx132_0)
                            replace p132 := eq_true p132
                            replace q132 := eq_true q132
                            obtain ⟨go39, co39, eo39, gb39, gl39, cl39, HG39⟩ := Kd.S_form HO_5.out (by have h_ : ((ji30) : Int) < ((x5_2.length : Int) : Int) := of_decide_eq_true (by first | (with_reducible assumption) | assumption); have h2_ : 0 ≤ ((ji30) : Int) := (of_decide_eq_true (by first | (with_reducible assumption) | assumption)); omega)
                            (first | cases eo39 | (injection eo39 with ea_ en_ ec_; (first | subst ea_ | (injection ea_ with ea_; subst ea_)); subst ec_; clear en_))
                            have GB39 := Aside0.mk gb39
                            have GG39 := Aside0.mk HG39
                            clear gb39 gl39 HG39
                            (first | simp only [add_plain] at hx130_0 | skip)
                            (first | simp only [add_plain] at hx130_1 | skip)
                            (first | simp only [add_plain] at hx130_2 | skip)
                            (first | simp only [add_plain] at hx130_3 | skip)
                            (first | simp only [add_plain] at hx131_0 | skip)
                            (first | simp only [add_plain] at hx131_1 | skip)
                            (first | simp only [add_plain] at hx131_2 | skip)
                            (first | simp only [add_plain] at hx131_3 | skip)
                            obtain ⟨oki39, ce39, hcl39, hM39, hcc39, _, _, hH39⟩ := Kd.S_elem HO_5.out z62 ((ji30) : Int) (of_decide_eq_true (by first | (with_reducible assumption) | assumption)) (by have h_ : ((ji30) : Int) < ((x5_2.length : Int) : Int) := of_decide_eq_true (by first | (with_reducible assumption) | assumption); first | exact h_ | (have e_ := (Kd.S_reads' HO_5.out).1; omega) | simpa using h_)
                            obtain ⟨ve39_3, rfl, ge39_3⟩ := k62_openM hM39
                            have hv39 := hcc39 3 _ rfl
                            have hX39 := HX131_3.out
                            (try simp only [add_plain] at hX39)
                            (try simp only [Nat.add_zero] at hv39)
                            replace hv39 := Option.some.inj (hv39.symm.trans hX39)
                            subst hv39
                            clear hX39 hcc39 hcl39
                            have UU39 := Aside0.mk (show Kd.R (Kd.int .u8) 5 _ w.heap.size oki39 (.slice A131_3 ((rd_T62 x5_2 (ji30)).f3).length c131_3) ((rd_T62 x5_2 (ji30)).f3) from ge39_3)
                            have HH39 := Aside0.mk hH39
                            have HN39 := Aside0.mk (Kd.S_reads' HO_5.out).1
                            clear hH39 ge39_3
                            refine start_ (n := 16) (S := fun w' => w'.cell? ⟨go39, (((ji30)).toNat * 4), none⟩ = some (.int .i64 ((rd_T62 x5_2 (ji30)).f0)) ∧ w'.cell? ⟨go39, (((ji30)).toNat * 4) + 1, none⟩ = some (.int .i64 ((rd_T62 x5_2 (ji30)).f1)) ∧ w'.cell? ⟨go39, (((ji30)).toNat * 4) + 2, none⟩ = some (.int .i64 ((rd_T62 x5_2 (ji30)).f2)) ∧ w'.cell? ⟨go39, (((ji30)).toNat * 4) + 3, none⟩ = some (.slice A131_3 ((rd_T62 x5_2 (ji30)).f3).length c131_3) ∧ w'.cell? (ad132.add (x6_2).toNat) = some (.int .u8 (rd l1 x6_2))) (ds := [15]) #[false, false, false, false, false, false, false, false, false, false, false, false, false, false, false, false] (by kernel_rfl) rfl rfl ⟨hx131_0, hx131_1, hx131_2, hx131_3, ((HB.out.cell (World.block_lt_of_cell? w _ hw132_0)).trans hw132_0)⟩ (fun hHeld => ?_); refine with_tabW spec_MakeDelta.tab14 spec_MakeDelta.bits14 (fun HT_ HW_ => ?_)
                            generalize wr.drew = w38 at HO_5 HL130_3 HR130_3 HB GG39 HH39 HL131_3 HR131_3 HX131_3 UU39 hx130_0 hx130_1 hx130_2 hx130_3 hx131_0 hx131_1 hx131_2 hx131_3 hx132_0 hHeld ⊢
                            refine pure_ (i := 0) (N := some 61) (v := ?_) (a' := ?_) #[true, false, false, false, false, false, false, false, false, false, false, false, false, false, false, false] rfl rfl (any_of HT_.out (by kernel_rfl)) (fun _ _ _ h => h) (Or.inl ⟨by rfl, ?_⟩) ?_ ?_
                            rotate_left
                            · intro w'
                              go_simp
                              with_reducible rfl
                            rotate_left
                            · simp only [Act.put, List.setIfInBounds_toArray, List.set_cons_zero, List.set_cons_succ, i64_w, i32_w]
                              rfl
                            refine pure_ (i := 1) (N := some 62) (v := ?_) (a' := ?_) #[true, true, false, false, false, false, false, false, false, false, false, false, false, false, false, false] rfl rfl (any_of HT_.out (by kernel_rfl)) (fun _ _ _ h => h) (Or.inl ⟨by rfl, ?_⟩) ?_ ?_
                            rotate_left
                            · intro w'
                              go_simp
                              with_reducible rfl
                            rotate_left
                            · simp only [Act.put, List.setIfInBounds_toArray, List.set_cons_zero, List.set_cons_succ, i64_w, i32_w]
                              rfl
                            refine pure_ (i := 2) (N := some 63) (v := ?_) (a' := ?_) #[true, true, true, false, false, false, false, false, false, false, false, false, false, false, false, false] rfl rfl (any_of HT_.out (by kernel_rfl)) (fun _ _ _ h => h) (Or.inl ⟨by rfl, ?_⟩) ?_ ?_
                            rotate_left
                            · intro w'
                              go_simp
                              with_reducible rfl
                            rotate_left
                            · simp only [Act.put, List.setIfInBounds_toArray, List.set_cons_zero, List.set_cons_succ, i64_w, i32_w]
                              rfl
                            refine pure_ (i := 3) (N := some 64) (v := ?_) (a' := ?_) #[true, true, true, true, false, false, false, false, false, false, false, false, false, false, false, false] rfl rfl (any_of HT_.out (by kernel_rfl)) (fun _ _ _ h => h) (Or.inl ⟨by rfl, ?_⟩) ?_ ?_
                            rotate_left
                            · intro w'
                              go_simp
                              with_reducible rfl
                            rotate_left
                            · simp only [Act.put, List.setIfInBounds_toArray, List.set_cons_zero, List.set_cons_succ, i64_w, i32_w]
                              rfl
                            refine pure_ (i := 4) (N := some 65) (v := ?_) (a' := ?_) #[true, true, true, true, true, false, false, false, false, false, false, false, false, false, false, false] rfl rfl (any_of HT_.out (by kernel_rfl)) (fun _ _ _ h => h) (Or.inl ⟨by rfl, ?_⟩) ?_ ?_
                            rotate_left
                            · intro w'
                              go_simp
                              with_reducible rfl
                            rotate_left
                            · simp only [Act.put, List.setIfInBounds_toArray, List.set_cons_zero, List.set_cons_succ, i64_w, i32_w]
                              rfl
                            refine pure_ (i := 5) (N := some 66) (v := ?_) (a' := ?_) #[true, true, true, true, true, true, false, false, false, false, false, false, false, false, false, false] rfl rfl (any_of HT_.out (by kernel_rfl)) (fun _ _ _ h => h) (Or.inl ⟨by rfl, ?_⟩) ?_ ?_
                            rotate_left
                            · intro w'
                              go_simp
                              with_reducible rfl
                            rotate_left
                            · simp only [Act.put, List.setIfInBounds_toArray, List.set_cons_zero, List.set_cons_succ, i64_w, i32_w]
                              rfl
                            refine pure_ (i := 7) (N := some 68) (v := ?_) (a' := ?_) #[true, true, true, true, true, true, false, true, false, false, false, false, false, false, false, false] rfl rfl (any_of HT_.out (by kernel_rfl)) (fun _ _ _ h => h) (Or.inl ⟨by rfl, ?_⟩) ?_ ?_
                            rotate_left
                            · intro w'
                              go_simp
                              with_reducible rfl
                            rotate_left
                            · simp only [Act.put, List.setIfInBounds_toArray, List.set_cons_zero, List.set_cons_succ, i64_w, i32_w]
                              rfl
                            refine pure_ (i := 8) (N := some 69) (v := ?_) (a' := ?_) #[true, true, true, true, true, true, false, true, true, false, false, false, false, false, false, false] rfl rfl (any_of HT_.out (by kernel_rfl)) (fun _ _ _ h => h) (Or.inl ⟨by rfl, ?_⟩) ?_ ?_
                            rotate_left
                            · intro w'
                              go_simp
                              with_reducible rfl
                            rotate_left
                            · simp only [Act.put, List.setIfInBounds_toArray, List.set_cons_zero, List.set_cons_succ, i64_w, i32_w]
                              rfl
                            refine pure_ (i := 9) (N := some 70) (v := ?_) (a' := ?_) #[true, true, true, true, true, true, false, true, true, true, false, false, false, false, false, false] rfl rfl (any_of HT_.out (by kernel_rfl)) (fun _ _ _ h => h) (Or.inl ⟨by rfl, ?_⟩) ?_ ?_
                            rotate_left
                            · intro w'
                              go_simp
                              with_reducible rfl
                            rotate_left
                            · simp only [Act.put, List.setIfInBounds_toArray, List.set_cons_zero, List.set_cons_succ, i64_w, i32_w]
                              rfl
                            refine take_ (i := 6) (N := some 67) (v := ?_) (a' := ?_) #[true, true, true, true, true, true, true, true, true, true, false, false, false, false, false, false] rfl rfl (take_ofW HT_.out HW_.out (by kernel_rfl)) (fun _ _ _ h => h) (Or.inl ⟨by rfl, ?_⟩) hHeld ?_ ?_
                            rotate_left
                            · rintro w' ⟨s0, s1, s2, s3, s4⟩
                              go_simp
                              with_reducible rfl
                            rotate_left
                            · simp only [Act.put, List.setIfInBounds_toArray, List.set_cons_zero, List.set_cons_succ, i64_w, i32_w]
                              rfl
                            refine take_ (i := 10) (N := some 71) (v := ?_) (a' := ?_) #[true, true, true, true, true, true, true, true, true, true, true, false, false, false, false, false] rfl rfl (take_ofW HT_.out HW_.out (by kernel_rfl)) (fun _ _ _ h => h) (Or.inl ⟨by rfl, ?_⟩) hHeld ?_ ?_
                            rotate_left
                            · rintro w' ⟨s0, s1, s2, s3, s4⟩
                              go_simp
                              with_reducible rfl
                            rotate_left
                            · simp only [Act.put, List.setIfInBounds_toArray, List.set_cons_zero, List.set_cons_succ, i64_w, i32_w]
                              rfl
                            refine one_ (i := 11) (N := some 72) #[true, true, true, true, true, true, true, true, true, true, true, true, false, false, false, false] rfl rfl (one_of HT_.out (by kernel_rfl)) (by decide) (fun K hK => ?_)
                            refine value_ (w1 := ?_) (v := ?_) (by rfl) rfl ?_ ?_
                            rotate_left 2
                            · go_simp
                              constructor
                              · rfl
                              · rfl
                            refine hK.out _ _ ⟨(World.cell?_alloc_lt _ _ _ (World.block_lt_of_cell? _ _ (hHeld.1))).trans (hHeld.1), (World.cell?_alloc_lt _ _ _ (World.block_lt_of_cell? _ _ (hHeld.2.1))).trans (hHeld.2.1), (World.cell?_alloc_lt _ _ _ (World.block_lt_of_cell? _ _ (hHeld.2.2.1))).trans (hHeld.2.2.1), (World.cell?_alloc_lt _ _ _ (World.block_lt_of_cell? _ _ (hHeld.2.2.2.1))).trans (hHeld.2.2.2.1), (World.cell?_alloc_lt _ _ _ (World.block_lt_of_cell? _ _ (((HB.out.cell (World.block_lt_of_cell? w _ hw132_0)).trans hw132_0)))).trans (((HB.out.cell (World.block_lt_of_cell? w _ hw132_0)).trans hw132_0))⟩ (fun hHeld => ?_)
                            clear hK K
                            refine norm_ (a' := ?_) ?_ ?_
                            rotate_left
                            · show Act.put _ (some 72) _ = _
                              simp only [Act.put, List.setIfInBounds_toArray, List.set_cons_zero, List.set_cons_succ, i64_w, i32_w]
                              rfl
                            refine one_ (i := 12) (N := some 73) #[true, true, true, true, true, true, true, true, true, true, true, true, true, false, false, false] rfl rfl (one_of HT_.out (by kernel_rfl)) (by decide) (fun K hK => ?_)
                            refine Kd.R_append_step (Kd.int .u8) (w0 := w) w.heap.size (by rfl) (.tmp 67) (.tmp 72) 22 5 (.int .u8 0) 1 rfl Try.underlying22 info5 rfl (by decide) (by omega) (.slice A131_3 ((rd_T62 x5_2 (ji30)).f3).length c131_3) ((rd_T62 x5_2 (ji30)).f3) (rd l1 x6_2) [.int .u8 (rd l1 x6_2)] (fun k_ => oki39 k_ ∨ ((fun _ => True)) k_ ∧ w38.heap.size ≤ k_) (fun _ => False) rfl rfl ?aP (fun _ hk => hk.elim) ?aF ?aO ?aB ?aS ?aL ?_
                            (case aP => exact rfl)
                            (case aB => exact (by repeat (first | (with_reducible first | exact HB.out | apply below_alloc | apply pw_below_drewN | apply below_drew1) | exact HB.out)))
                            (case aF => exact (fun k_ hk => .inr ⟨trivial, hk⟩))
                            (case aO => exact (by (with_reducible repeat (first | apply Kd.R_alloc | apply Kd.R_drewN | apply Kd.R_drew)); exact Kd.R_mono UU39.out (fun _ hk => .inl hk)))
                            (case aS => exact (below_size (by repeat (first | (with_reducible first | exact HB.out | apply below_alloc | apply pw_below_drewN | apply below_drew1) | exact HB.out))))
                            (case aL => have := LMc35.out; omega)
                            intro v134 w40 ho hb hg hat
                            (first | have HS0_ := cell_grown hg (hHeld.1) (by first | (rw [add_block]; exact (fun e_ => ((HL131_3.out.1 _ e_.symm).2) rfl)) | (show some (Addr.add _ _).block ≠ _; rw [add_block]; exact (fun e_ => ((HL131_3.out.1 _ e_.symm).2) rfl)) | exact (fun e_ => ((HL131_3.out.1 _ e_.symm).2) rfl)) | have HS0_ := cell_grown hg (cell_unalloc (hHeld.1) (by first | (rw [add_block]; exact Kd.S_lt HO_5.out _ rfl) | (show (Addr.add _ _).block < _; rw [add_block]; exact Kd.S_lt HO_5.out _ rfl) | exact Kd.S_lt HO_5.out _ rfl)) (by first | (rw [add_block]; exact (fun e_ => ((HL131_3.out.1 _ e_.symm).2) rfl)) | (show some (Addr.add _ _).block ≠ _; rw [add_block]; exact (fun e_ => ((HL131_3.out.1 _ e_.symm).2) rfl)) | exact (fun e_ => ((HL131_3.out.1 _ e_.symm).2) rfl)))
                            (first | have HS1_ := cell_grown hg (hHeld.2.1) (by first | (rw [add_block]; exact (fun e_ => ((HL131_3.out.1 _ e_.symm).2) rfl)) | (show some (Addr.add _ _).block ≠ _; rw [add_block]; exact (fun e_ => ((HL131_3.out.1 _ e_.symm).2) rfl)) | exact (fun e_ => ((HL131_3.out.1 _ e_.symm).2) rfl)) | have HS1_ := cell_grown hg (cell_unalloc (hHeld.2.1) (by first | (rw [add_block]; exact Kd.S_lt HO_5.out _ rfl) | (show (Addr.add _ _).block < _; rw [add_block]; exact Kd.S_lt HO_5.out _ rfl) | exact Kd.S_lt HO_5.out _ rfl)) (by first | (rw [add_block]; exact (fun e_ => ((HL131_3.out.1 _ e_.symm).2) rfl)) | (show some (Addr.add _ _).block ≠ _; rw [add_block]; exact (fun e_ => ((HL131_3.out.1 _ e_.symm).2) rfl)) | exact (fun e_ => ((HL131_3.out.1 _ e_.symm).2) rfl)))
                            (first | have HS2_ := cell_grown hg (hHeld.2.2.1) (by first | (rw [add_block]; exact (fun e_ => ((HL131_3.out.1 _ e_.symm).2) rfl)) | (show some (Addr.add _ _).block ≠ _; rw [add_block]; exact (fun e_ => ((HL131_3.out.1 _ e_.symm).2) rfl)) | exact (fun e_ => ((HL131_3.out.1 _ e_.symm).2) rfl)) | have HS2_ := cell_grown hg (cell_unalloc (hHeld.2.2.1) (by first | (rw [add_block]; exact Kd.S_lt HO_5.out _ rfl) | (show (Addr.add _ _).block < _; rw [add_block]; exact Kd.S_lt HO_5.out _ rfl) | exact Kd.S_lt HO_5.out _ rfl)) (by first | (rw [add_block]; exact (fun e_ => ((HL131_3.out.1 _ e_.symm).2) rfl)) | (show some (Addr.add _ _).block ≠ _; rw [add_block]; exact (fun e_ => ((HL131_3.out.1 _ e_.symm).2) rfl)) | exact (fun e_ => ((HL131_3.out.1 _ e_.symm).2) rfl)))
                            (first | have HS3_ := cell_grown hg (hHeld.2.2.2.1) (by first | (rw [add_block]; exact (fun e_ => ((HL131_3.out.1 _ e_.symm).2) rfl)) | (show some (Addr.add _ _).block ≠ _; rw [add_block]; exact (fun e_ => ((HL131_3.out.1 _ e_.symm).2) rfl)) | exact (fun e_ => ((HL131_3.out.1 _ e_.symm).2) rfl)) | have HS3_ := cell_grown hg (cell_unalloc (hHeld.2.2.2.1) (by first | (rw [add_block]; exact Kd.S_lt HO_5.out _ rfl) | (show (Addr.add _ _).block < _; rw [add_block]; exact Kd.S_lt HO_5.out _ rfl) | exact Kd.S_lt HO_5.out _ rfl)) (by first | (rw [add_block]; exact (fun e_ => ((HL131_3.out.1 _ e_.symm).2) rfl)) | (show some (Addr.add _ _).block ≠ _; rw [add_block]; exact (fun e_ => ((HL131_3.out.1 _ e_.symm).2) rfl)) | exact (fun e_ => ((HL131_3.out.1 _ e_.symm).2) rfl)))
                            rw [← Ny133.out] at ho
                            have n0_ := Aside0.mk (hb)
                            have n1_ := Aside0.mk (Kd.H_grown (Kd.H_widen (by repeat (first | exact HH39.out | refine Kd.H_alloc ?_ _ | refine Kd.H_drewN ?_ _ | refine Kd.H_drew ?_))) hg (fun k_ e_ => .inl (UU39.out.1 k_ e_)))
                            have n2_ := Aside0.mk (ho)
                            clear HB
                            clear HH39
                            clear HO_5
                            clear UU39
                            clear HL130_3
                            clear HL131_3
                            have HB := n0_
                            have HH39 := n1_
                            have HO135 := n2_
                            clear n0_ n1_ n2_
                            clear ho hb hg hat
                            have p36 : 0 ≤ ((ji30) : Int) := of_decide_eq_true (by first | (with_reducible assumption) | assumption)
                            have q36 : ((ji30) : Int) < ((x5_2.length : Int) : Int) := of_decide_eq_true (by first | (with_reducible assumption) | assumption)
                            replace p36 := eq_true p36
                            replace q36 := eq_true q36
                            obtain ⟨Ao43, co43, eo43⟩ := Kd.R_slice HO135.out
                            (first | subst eo43 | (injection eo43 with f1_ f2_ f3_; have f4_ := f1_.symm; have f5_ := f3_.symm; clear f1_ f2_ f3_; subst f4_; subst f5_))
                            obtain ⟨_, _, hraw41, _, _, hcc41, _⟩ := Kd.H_raw HH39.out (of_decide_eq_true (by first | (with_reducible assumption) | assumption)) (by have h_ : ((ji30) : Int) < ((x5_2.length : Int) : Int) := of_decide_eq_true (by first | (with_reducible assumption) | assumption); first | exact h_ | (have e_ := (HN39.out); omega) | simpa using h_)
                            obtain ⟨_, hfr41⟩ := Kd.H_at HH39.out (of_decide_eq_true (by first | (with_reducible assumption) | assumption)) (by have h_ : ((ji30) : Int) < ((x5_2.length : Int) : Int) := of_decide_eq_true (by first | (with_reducible assumption) | assumption); first | exact h_ | (have e_ := (HN39.out); omega) | simpa using h_)
                            have hx41_0 := hcc41 3 _ rfl
                            have hf41_0 := hfr41 3
                            (try rw [show (k62).sz = 4 from rfl] at hx41_0)
                            (try rw [show (k62).sz = 4 from rfl] at hf41_0)
                            have HP41 := Kd.S_seg0 HH39.out (of_decide_eq_true (by first | (with_reducible assumption) | assumption)) (by have h_ : ((ji30) : Int) < ((x5_2.length : Int) : Int) := of_decide_eq_true (by first | (with_reducible assumption) | assumption); first | exact h_ | (have e_ := (HN39.out); omega) | simpa using h_) (seg := [.slice Ao43 y133.length co43]) (j := 3) (show 4 ≤ 4 from by decide) (x' := (⟨(rd_T62 x5_2 (ji30)).f0, (rd_T62 x5_2 (ji30)).f1, (rd_T62 x5_2 (ji30)).f2, y133⟩ : S62)) (k62_mkM _ _ _ (⟨(rd_T62 x5_2 (ji30)).f0, (rd_T62 x5_2 (ji30)).f1, (rd_T62 x5_2 (ji30)).f2, y133⟩ : S62) HO135.out) (fun _ hk => hk)
                            clear hcc41 hfr41
                            have HS41 := HP41.1
                            rw [← Ny136.out] at HS41
                            have HQ41 := Aside0.mk HS41
                            obtain ⟨_, hgg41⟩ := Kd.R_typed hraw41 go39 rfl
                            have GG41_ := Aside0.mk hgg41
                            clear HP41 HS41 hgg41
                            refine hK.out _ _ ⟨HS0_, HS1_, HS2_, HS3_, ((HB.out.cell (World.block_lt_of_cell? w _ hw132_0)).trans hw132_0)⟩ (fun hHeld => ?_)
                            clear hK K
                            refine norm_ (a' := ?_) ?_ ?_
                            rotate_left
                            · show Act.put _ (some 73) _ = _
                              simp only [Act.put, List.setIfInBounds_toArray, List.set_cons_zero, List.set_cons_succ, i64_w, i32_w]
                              rfl
                            refine pure_ (i := 13) (N := some 74) (v := ?_) (a' := ?_) #[true, true, true, true, true, true, true, true, true, true, true, true, true, true, false, false] rfl rfl (any_of HT_.out (by kernel_rfl)) (fun _ _ _ h => h) (Or.inl ⟨by rfl, ?_⟩) ?_ ?_
                            rotate_left
                            · intro w'
                              go_simp
                              with_reducible rfl
                            rotate_left
                            · simp only [Act.put, List.setIfInBounds_toArray, List.set_cons_zero, List.set_cons_succ, i64_w, i32_w]
                              rfl
                            refine pure_ (i := 14) (N := some 75) (v := ?_) (a' := ?_) #[true, true, true, true, true, true, true, true, true, true, true, true, true, true, true, false] rfl rfl (any_of HT_.out (by kernel_rfl)) (fun _ _ _ h => h) (Or.inl ⟨by rfl, ?_⟩) ?_ ?_
                            rotate_left
                            · intro w'
                              go_simp
                              with_reducible rfl
                            rotate_left
                            · simp only [Act.put, List.setIfInBounds_toArray, List.set_cons_zero, List.set_cons_succ, i64_w, i32_w]
                              rfl
                            refine last_ (i := 15) (N := none) #[true, true, true, true, true, true, true, true, true, true, true, true, true, true, true, true] rfl rfl (one_of HT_.out (by kernel_rfl)) (by decide) (fun K hK => ?_)
                            refine skip_ (w1 := ?_) (by rfl) rfl ?_ ?_
                            rotate_left
                            · go_simp
                              rfl
                            refine hK.out _ _ ?_
                            clear hK K
                            refine done_ (done_of HT_.out (by kernel_rfl)) ?_
                            try go_wp2
                            go_roundg k2
                            case measure => have := HJ2.out; have := HK2.out; omega
                            case rel => exact ⟨(y136), (wrap64 (x6_2 + 1)), (by first | rfl | (simp; done) | (simp [*]; done)), H', ⟨by have := HJ2.out; have := HK2.out; omega⟩, ⟨by (with_reducible repeat (first | apply Kd.S_alloc | apply Kd.S_drewN | apply Kd.S_drew)); exact HQ41.out⟩, ⟨by repeat (first | (with_reducible first | exact HB.out | apply below_alloc | apply pw_below_drewN | apply below_drew1 | refine below_set ?_ GB39.out) | exact HB.out)⟩⟩
                          · rw [if_neg c35] at H
                            exact absurd H (by simp)
                        · rw [if_neg c34] at H
                          exact absurd H (by simp)
                      · rw [if_neg c33] at H
                        have c33b0 : (((rd_T62 x5_2 (ji30)).f0) == 2) = false := beq_eq_false_iff_ne.mpr c33
                        have c33b1 : (((rd_T62 x5_2 (ji30)).f0) != 2) = true := bne_iff_ne.mpr c33
                        by_cases c44 : x5_2.length < 2932031007402
                        · rw [if_pos c44] at H
                          have LMc44 := Aside0.mk c44
                          clear c44
                          obtain ⟨y137, hy137⟩ : ∃ y_ : List (S62), y_ = (x5_2 ++ [(⟨2, 0, 0, ([] : List Int)⟩ : S62)]) := ⟨_, rfl⟩
                          replace H : (if 0 ≤ (wrap64 ((ji30) + 1)) then (if (wrap64 ((ji30) + 1)) < (y137.length : Int) then (if 0 ≤ x6_2 then (if ((rd_T62 y137 (wrap64 ((ji30) + 1))).f3).length < 140737488355328 then (spec_MakeDelta.l0 k2 l0 l1 (y137.set ((wrap64 ((ji30) + 1)) : Int).toNat (⟨(rd_T62 y137 (wrap64 ((ji30) + 1))).f0, (rd_T62 y137 (wrap64 ((ji30) + 1))).f1, (rd_T62 y137 (wrap64 ((ji30) + 1))).f2, (((rd_T62 y137 (wrap64 ((ji30) + 1))).f3) ++ [rd l1 x6_2])⟩ : S62)) (wrap64 (x6_2 + 1))) else (none)) else (none)) else (none)) else (none)) = some r := by first | (rw [hy137]; with_reducible exact H) | (have H2_ := (Option.bind_some _ _).symm.trans H; rw [hy137]; with_reducible exact H2_) | (have H2_ := (Option.bind_some _ _).symm.trans H; with_reducible exact H2_) | with_reducible exact H | (rw [hy137]; exact H) | exact H
                          have Ny137 := Aside0.mk hy137
                          clear hy137
                          obtain ⟨ji45, hji45⟩ : ∃ j_ : Int, (wrap64 ((ji30) + 1)) = j_ := ⟨_, rfl⟩
                          replace H : (if 0 ≤ (ji45) then (if (ji45) < (y137.length : Int) then (if 0 ≤ x6_2 then (if ((rd_T62 y137 (ji45)).f3).length < 140737488355328 then (spec_MakeDelta.l0 k2 l0 l1 (y137.set ((ji45) : Int).toNat (⟨(rd_T62 y137 (ji45)).f0, (rd_T62 y137 (ji45)).f1, (rd_T62 y137 (ji45)).f2, (((rd_T62 y137 (ji45)).f3) ++ [rd l1 x6_2])⟩ : S62)) (wrap64 (x6_2 + 1))) else (none)) else (none)) else (none)) else (none)) = some r := by first | (rw [hji45] at H; exact H) | (simp only [hji45] at H ⊢; exact H)
                          (try rw [hji45] at A9)
                          have hji45w : (IntKind.i64.wrap ((ji30) + 1)) = ji45 := (i64_w _).trans hji45
                          by_cases c46 : 0 ≤ (ji45)
                          · rw [if_pos c46] at H
                            have c46b0 : decide (0 ≤ (ji45)) = true := decide_eq_true c46
                            clear c46
                            by_cases c47 : (ji45) < (y137.length : Int)
                            · rw [if_pos c47] at H
                              have c47b0 : decide ((ji45) < (y137.length : Int)) = true := decide_eq_true c47
                              clear c47
                              by_cases c48 : 0 ≤ x6_2
                              · rw [if_pos c48] at H
                                have c48b0 : decide (0 ≤ x6_2) = true := decide_eq_true c48
                                clear c48
                                by_cases c49 : ((rd_T62 y137 (ji45)).f3).length < 140737488355328
                                · rw [if_pos c49] at H
                                  have LMc49 := Aside0.mk c49
                                  clear c49
                                  obtain ⟨y142, hy142⟩ : ∃ y_ : List Int, y_ = (((rd_T62 y137 (ji45)).f3) ++ [rd l1 x6_2]) := ⟨_, rfl⟩
                                  replace H : (spec_MakeDelta.l0 k2 l0 l1 (y137.set ((ji45) : Int).toNat (⟨(rd_T62 y137 (ji45)).f0, (rd_T62 y137 (ji45)).f1, (rd_T62 y137 (ji45)).f2, y142⟩ : S62)) (wrap64 (x6_2 + 1))) = some r := by first | (rw [hy142]; with_reducible exact H) | (have H2_ := (Option.bind_some _ _).symm.trans H; rw [hy142]; with_reducible exact H2_) | (have H2_ := (Option.bind_some _ _).symm.trans H; with_reducible exact H2_) | with_reducible exact H | (rw [hy142]; exact H) | exact H
                                  have Ny142 := Aside0.mk hy142
                                  clear hy142
                                  obtain ⟨y145, hy145⟩ : ∃ y_ : List (S62), y_ = (y137.set ((ji45) : Int).toNat (⟨(rd_T62 y137 (ji45)).f0, (rd_T62 y137 (ji45)).f1, (rd_T62 y137 (ji45)).f2, y142⟩ : S62)) := ⟨_, rfl⟩
                                  replace H : (spec_MakeDelta.l0 k2 l0 l1 y145 (wrap64 (x6_2 + 1))) = some r := by first | (rw [hy145]; with_reducible exact H) | (have H2_ := (Option.bind_some _ _).symm.trans H; rw [hy145]; with_reducible exact H2_) | (have H2_ := (Option.bind_some _ _).symm.trans H; with_reducible exact H2_) | with_reducible exact H | (rw [hy145]; exact H) | exact H
                                  have Ny145 := Aside0.mk hy145
                                  clear hy145
                                  have H' := Aside0.mk H
                                  clear H
                                  try go_wp2_with (first | ((with_reducible refine gate_callee (f := 47) rfl ?_); refine goesL_ (some 28) rfl rfl Try.func47 (by kernel_rfl) rfl #[.slice A0 l0.length c0, .slice A1 l1.length c1, .int .i64 x6_2] rfl (by (try simp only [List.map_toArray, List.map_cons, List.map_nil]); first | done | rfl | (simp only [List.length_drop, List.length_take]; rfl)) ?_; (with_reducible refine (spec_l14Find.calls k2 _ _ l0 _ _ l1 x6_2 t116 t117 _ ?side1 ?side2 ?side3 ?side4 A9.out).mono ?_); (case side1 => repeat (first | exact (Kd.C_below HR0.out HB.out) | (with_reducible refine Kd.C_alloc ?_ _) | (with_reducible refine Kd.C_drewN ?_ _) | (with_reducible refine Kd.C_drew ?_))); (case side2 => exact HC0.out); (case side3 => repeat (first | exact (Kd.C_below HR1.out HB.out) | (with_reducible refine Kd.C_alloc ?_ _) | (with_reducible refine Kd.C_drewN ?_ _) | (with_reducible refine Kd.C_drew ?_))); (case side4 => exact HC1.out); rintro e w' ⟨rfl, ⟨nd, rfl⟩⟩; refine ⟨_, rfl, ?_⟩; (try (rw [drewN_self wr]; generalize hq_ : World.drewN wr _ = wr; have n0_ : Aside0 (Kd.S k62 62 wr w.heap.size (fun _ => True) u5 x5_2) := ⟨by rw [← hq_]; exact (by (with_reducible repeat (first | apply Kd.S_alloc | apply Kd.S_drewN | apply Kd.S_drew)); exact HO_5.out)⟩; have n1_ : Aside0 (Below w.heap.size w wr) := ⟨by rw [← hq_]; exact (by repeat (first | (with_reducible first | exact HB.out | apply below_alloc | apply pw_below_drewN | apply below_drew1) | exact HB.out))⟩; clear HO_5 HB hq_; have HO_5 := n0_; have HB := n1_; clear n0_ n1_)); obtain ⟨Ao51, co51, eo51⟩ := Kd.S_slice HO_5.out; subst eo51; have p130 : 0 ≤ ((ji30) : Int) := of_decide_eq_true (by first | (with_reducible assumption) | assumption); have q130 : (ji30) < (x5_2.length : Int) := of_decide_eq_true (by first | (with_reducible assumption) | assumption); obtain ⟨ad130, A130_3, c130_3, e130, hx130_0, hx130_1, hx130_2, hx130_3, hl130_3, hi130_3⟩ := at_T62 (Kd.S_reads' HO_5.out).2.2 (ji30) p130 q130; cases e130; obtain ⟨ce130, hce130, hMe130, hcc130⟩ := Kd.S_get HO_5.out z62 (ji30) p130 (by first | exact q130 | exact of_decide_eq_true (by first | (with_reducible assumption) | assumption) | (have e_ := (Kd.S_reads' HO_5.out).1; omega)); obtain ⟨ve130_3, rfl, ge130_3⟩ := k62_openM hMe130; have hv130_3 := hcc130 3 _ rfl; rw [add_field _ _ 3 (by omega)] at hv130_3; replace hv130_3 := Option.some.inj (hv130_3.symm.trans hx130_3); rw [hv130_3] at ge130_3; have HL130_3 := Aside0.mk (show Kd.R (Kd.int .u8) 5 _ _ _ _ ((rd_T62 x5_2 (ji30)).f3) from ge130_3); clear hv130_3 ge130_3; have HX130_3 := Aside0.mk hx130_3; clear hcc130 hce130; have HR130_3 := Aside0.mk hi130_3; have HC130_3 := Aside0.mk hl130_3; clear hi130_3 hl130_3; replace p130 := eq_true p130; replace q130 := eq_true q130) | ((with_reducible refine gate_builtin (b := .append) (xs := #[.tmp 55, .tmp 57]) rfl ?_); (try (refine gate_guard (by rfl) ?_; dsimp only)); at_builtin; refine Kd.S_append k62 (w0 := w) w.heap.size rfl (.tmp 55) (.tmp 57) 23 62 (.agg #[(.int .i64 0), (.int .i64 0), (.int .i64 0), (.slice none 0 0)]) 48 rfl Try.underlying23 info62 rfl (by decide) (by omega) (.slice (some ad130) x5_2.length co51) x5_2 (⟨2, 0, 0, ([] : List Int)⟩ : S62) [.int .i64 2, .int .i64 0, .int .i64 0, .slice none 0 0] (fun _ => True) (fun _ => False) rfl rfl ?aP (fun k_ hk_ => hk_.elim) ?aF ?aO ?aB ?aS ?aL ?_; (case aP => exact k62_mkM _ _ _ (⟨2, 0, 0, ([] : List Int)⟩ : S62) (Kd.R_nil _ _ _ _ _)); (case aB => exact (by repeat (first | (with_reducible first | exact HB.out | apply below_alloc | apply pw_below_drewN | apply below_drew1) | exact HB.out))); (case aF => exact (fun _ _ => trivial)); (case aO => exact (by (with_reducible repeat (first | apply Kd.S_alloc | apply Kd.S_drewN | apply Kd.S_drew)); exact Kd.S_mono HO_5.out (fun k_ hk => ⟨trivial, fun e_ => e_⟩))); (case aS => exact (below_size (by repeat (first | (with_reducible first | exact HB.out | apply below_alloc | apply pw_below_drewN | apply below_drew1) | exact HB.out)))); (case aL => have := LMc44.out; omega); intro v138 w52 ho hb hg hat; rw [← Ny137.out] at ho; have n0_ := Aside0.mk (Kd.R_after (ok := (fun _ => True)) (by (with_reducible repeat (first | apply Kd.R_alloc | apply Kd.R_drewN | apply Kd.R_drew)); exact HL130_3.out) hg hat); have n1_ := Aside0.mk (hb); have n2_ := Aside0.mk (ho); clear HL130_3; clear HB; clear HO_5; have HL130_3 := n0_; have HB := n1_; have HO139 := n2_; clear n0_ n1_ n2_; clear ho hb hg hat))
                                  have n0_ := Aside0.mk (Kd.R_drew HL130_3.out)
                                  have n1_ := Aside0.mk (Kd.S_drew HO139.out)
                                  have n2_ := Aside0.mk (below_drew1 HB.out)
                                  clear HL130_3
                                  clear HO139
                                  clear HB
                                  have HL130_3 := n0_
                                  have HO139 := n1_
                                  have HB := n2_
                                  clear n0_ n1_ n2_
                                  obtain ⟨Ao54, co54, eo54⟩ := Kd.S_slice HO139.out
                                  (first | subst eo54 | (injection eo54 with f1_ f2_ f3_; have f4_ := f1_.symm; have f5_ := f3_.symm; clear f1_ f2_ f3_; subst f4_; subst f5_))
                                  have p140 : 0 ≤ ((ji45) : Int) := of_decide_eq_true (by first | (with_reducible assumption) | assumption)
                                  have q140 : (ji45) < (y137.length : Int) := of_decide_eq_true (by first | (with_reducible assumption) | assumption)
                                  obtain ⟨ad140, A140_3, c140_3, e140, hx140_0, hx140_1, hx140_2, hx140_3, hl140_3, hi140_3⟩ := at_T62 (Kd.S_reads' HO139.out).2.2 (ji45) p140 q140
                                  cases e140
                                  obtain ⟨ce140, hce140, hMe140, hcc140⟩ := Kd.S_get HO139.out z62 (ji45) p140 (by first | exact q140 | exact of_decide_eq_true (by first | (with_reducible assumption) | assumption) | (have e_ := (Kd.S_reads' HO139.out).1; omega))
                                  obtain ⟨ve140_3, rfl, ge140_3⟩ := k62_openM hMe140
                                  have hv140_3 := hcc140 3 _ rfl
                                  rw [add_field _ _ 3 (by omega)] at hv140_3
                                  replace hv140_3 := Option.some.inj (hv140_3.symm.trans hx140_3)
                                  rw [hv140_3] at ge140_3
                                  have HL140_3 := Aside0.mk (show Kd.R (Kd.int .u8) 5 _ _ _ _ ((rd_T62 y137 (ji45)).f3) from ge140_3)
                                  clear hv140_3 ge140_3
                                  have HX140_3 := Aside0.mk hx140_3
                                  clear hcc140 hce140
                                  have HR140_3 := Aside0.mk hi140_3
                                  have HC140_3 := Aside0.mk hl140_3
                                  clear hi140_3 hl140_3
                                  replace p140 := eq_true p140
                                  replace q140 := eq_true q140
                                  have p141 : 0 ≤ (x6_2 : Int) := of_decide_eq_true (by first | (with_reducible assumption) | assumption)
                                  have q141 : x6_2 < (l1.length : Int) := of_decide_eq_true (by first | (with_reducible assumption) | assumption)
                                  obtain ⟨ad141, e141, hx141_0⟩ := Kd.at_int HR1.out x6_2 p141 q141
                                  have hw141_0 := hx141_0
                                  cases e141
                                  try (replace hx141_0 := (HB.out.cell (World.block_lt_of_cell? w _ hx141_0)).trans hx141_0)
                                  replace p141 := eq_true p141
                                  replace q141 := eq_true q141
                                  obtain ⟨go55, co55, eo55, gb55, gl55, cl55, HG55⟩ := Kd.S_form HO139.out (by have h_ : ((ji45) : Int) < ((y137.length : Int) : Int) := of_decide_eq_true (by first | (with_reducible assumption) | assumption); have h2_ : 0 ≤ ((ji45) : Int) := (of_decide_eq_true (by first | (with_reducible assumption) | assumption)); omega)
                                  (first | cases eo55 | (injection eo55 with ea_ en_ ec_; (first | subst ea_ | (injection ea_ with ea_; subst ea_)); subst ec_; clear en_))
                                  have GB55 := Aside0.mk gb55
                                  have GG55 := Aside0.mk HG55
                                  clear gb55 gl55 HG55
                                  (first | simp only [add_plain] at hx140_0 | skip)
                                  (first | simp only [add_plain] at hx140_1 | skip)
                                  (first | simp only [add_plain] at hx140_2 | skip)
                                  (first | simp only [add_plain] at hx140_3 | skip)
                                  obtain ⟨oki55, ce55, hcl55, hM55, hcc55, _, _, hH55⟩ := Kd.S_elem HO139.out z62 ((ji45) : Int) (of_decide_eq_true (by first | (with_reducible assumption) | assumption)) (by have h_ : ((ji45) : Int) < ((y137.length : Int) : Int) := of_decide_eq_true (by first | (with_reducible assumption) | assumption); first | exact h_ | (have e_ := (Kd.S_reads' HO139.out).1; omega) | simpa using h_)
                                  obtain ⟨ve55_3, rfl, ge55_3⟩ := k62_openM hM55
                                  have hv55 := hcc55 3 _ rfl
                                  have hX55 := HX140_3.out
                                  (try simp only [add_plain] at hX55)
                                  (try simp only [Nat.add_zero] at hv55)
                                  replace hv55 := Option.some.inj (hv55.symm.trans hX55)
                                  subst hv55
                                  clear hX55 hcc55 hcl55
                                  have UU55 := Aside0.mk (show Kd.R (Kd.int .u8) 5 _ w.heap.size oki55 (.slice A140_3 ((rd_T62 y137 (ji45)).f3).length c140_3) ((rd_T62 y137 (ji45)).f3) from ge55_3)
                                  have HH55 := Aside0.mk hH55
                                  have HN55 := Aside0.mk (Kd.S_reads' HO139.out).1
                                  clear hH55 ge55_3
                                  refine start_ (n := 16) (S := fun w' => w'.cell? ⟨go55, (((ji45)).toNat * 4), none⟩ = some (.int .i64 ((rd_T62 y137 (ji45)).f0)) ∧ w'.cell? ⟨go55, (((ji45)).toNat * 4) + 1, none⟩ = some (.int .i64 ((rd_T62 y137 (ji45)).f1)) ∧ w'.cell? ⟨go55, (((ji45)).toNat * 4) + 2, none⟩ = some (.int .i64 ((rd_T62 y137 (ji45)).f2)) ∧ w'.cell? ⟨go55, (((ji45)).toNat * 4) + 3, none⟩ = some (.slice A140_3 ((rd_T62 y137 (ji45)).f3).length c140_3) ∧ w'.cell? (ad141.add (x6_2).toNat) = some (.int .u8 (rd l1 x6_2))) (ds := [15]) #[false, false, false, false, false, false, false, false, false, false, false, false, false, false, false, false] (by kernel_rfl) rfl rfl ⟨hx140_0, hx140_1, hx140_2, hx140_3, ((HB.out.cell (World.block_lt_of_cell? w _ hw141_0)).trans hw141_0)⟩ (fun hHeld => ?_); refine with_tabW spec_MakeDelta.tab14 spec_MakeDelta.bits14 (fun HT_ HW_ => ?_)
                                  generalize w52.drew = w53 at HL130_3 HO139 HB GG55 HH55 HL140_3 HR140_3 HX140_3 UU55 hx140_0 hx140_1 hx140_2 hx140_3 hx141_0 hHeld ⊢
                                  refine pure_ (i := 0) (N := some 61) (v := ?_) (a' := ?_) #[true, false, false, false, false, false, false, false, false, false, false, false, false, false, false, false] rfl rfl (any_of HT_.out (by kernel_rfl)) (fun _ _ _ h => h) (Or.inl ⟨by rfl, ?_⟩) ?_ ?_
                                  rotate_left
                                  · intro w'
                                    go_simp
                                    with_reducible rfl
                                  rotate_left
                                  · simp only [Act.put, List.setIfInBounds_toArray, List.set_cons_zero, List.set_cons_succ, i64_w, i32_w]
                                    rfl
                                  refine pure_ (i := 1) (N := some 62) (v := ?_) (a' := ?_) #[true, true, false, false, false, false, false, false, false, false, false, false, false, false, false, false] rfl rfl (any_of HT_.out (by kernel_rfl)) (fun _ _ _ h => h) (Or.inl ⟨by rfl, ?_⟩) ?_ ?_
                                  rotate_left
                                  · intro w'
                                    go_simp
                                    with_reducible rfl
                                  rotate_left
                                  · simp only [Act.put, List.setIfInBounds_toArray, List.set_cons_zero, List.set_cons_succ, i64_w, i32_w]
                                    rfl
                                  refine pure_ (i := 2) (N := some 63) (v := ?_) (a' := ?_) #[true, true, true, false, false, false, false, false, false, false, false, false, false, false, false, false] rfl rfl (any_of HT_.out (by kernel_rfl)) (fun _ _ _ h => h) (Or.inl ⟨by rfl, ?_⟩) ?_ ?_
                                  rotate_left
                                  · intro w'
                                    go_simp
                                    with_reducible rfl
                                  rotate_left
                                  · simp only [Act.put, List.setIfInBounds_toArray, List.set_cons_zero, List.set_cons_succ, i64_w, i32_w]
                                    rfl
                                  refine pure_ (i := 3) (N := some 64) (v := ?_) (a' := ?_) #[true, true, true, true, false, false, false, false, false, false, false, false, false, false, false, false] rfl rfl (any_of HT_.out (by kernel_rfl)) (fun _ _ _ h => h) (Or.inl ⟨by rfl, ?_⟩) ?_ ?_
                                  rotate_left
                                  · intro w'
                                    go_simp
                                    with_reducible rfl
                                  rotate_left
                                  · simp only [Act.put, List.setIfInBounds_toArray, List.set_cons_zero, List.set_cons_succ, i64_w, i32_w]
                                    rfl
                                  refine pure_ (i := 4) (N := some 65) (v := ?_) (a' := ?_) #[true, true, true, true, true, false, false, false, false, false, false, false, false, false, false, false] rfl rfl (any_of HT_.out (by kernel_rfl)) (fun _ _ _ h => h) (Or.inl ⟨by rfl, ?_⟩) ?_ ?_
                                  rotate_left
                                  · intro w'
                                    go_simp
                                    with_reducible rfl
                                  rotate_left
                                  · simp only [Act.put, List.setIfInBounds_toArray, List.set_cons_zero, List.set_cons_succ, i64_w, i32_w]
                                    rfl
                                  refine pure_ (i := 5) (N := some 66) (v := ?_) (a' := ?_) #[true, true, true, true, true, true, false, false, false, false, false, false, false, false, false, false] rfl rfl (any_of HT_.out (by kernel_rfl)) (fun _ _ _ h => h) (Or.inl ⟨by rfl, ?_⟩) ?_ ?_
                                  rotate_left
                                  · intro w'
                                    go_simp
                                    with_reducible rfl
                                  rotate_left
                                  · simp only [Act.put, List.setIfInBounds_toArray, List.set_cons_zero, List.set_cons_succ, i64_w, i32_w]
                                    rfl
                                  refine pure_ (i := 7) (N := some 68) (v := ?_) (a' := ?_) #[true, true, true, true, true, true, false, true, false, false, false, false, false, false, false, false] rfl rfl (any_of HT_.out (by kernel_rfl)) (fun _ _ _ h => h) (Or.inl ⟨by rfl, ?_⟩) ?_ ?_
                                  rotate_left
                                  · intro w'
                                    go_simp
                                    with_reducible rfl
                                  rotate_left
                                  · simp only [Act.put, List.setIfInBounds_toArray, List.set_cons_zero, List.set_cons_succ, i64_w, i32_w]
                                    rfl
                                  refine pure_ (i := 8) (N := some 69) (v := ?_) (a' := ?_) #[true, true, true, true, true, true, false, true, true, false, false, false, false, false, false, false] rfl rfl (any_of HT_.out (by kernel_rfl)) (fun _ _ _ h => h) (Or.inl ⟨by rfl, ?_⟩) ?_ ?_
                                  rotate_left
                                  · intro w'
                                    go_simp
                                    with_reducible rfl
                                  rotate_left
                                  · simp only [Act.put, List.setIfInBounds_toArray, List.set_cons_zero, List.set_cons_succ, i64_w, i32_w]
                                    rfl
                                  refine pure_ (i := 9) (N := some 70) (v := ?_) (a' := ?_) #[true, true, true, true, true, true, false, true, true, true, false, false, false, false, false, false] rfl rfl (any_of HT_.out (by kernel_rfl)) (fun _ _ _ h => h) (Or.inl ⟨by rfl, ?_⟩) ?_ ?_
                                  rotate_left
                                  · intro w'
                                    go_simp
                                    with_reducible rfl
                                  rotate_left
                                  · simp only [Act.put, List.setIfInBounds_toArray, List.set_cons_zero, List.set_cons_succ, i64_w, i32_w]
                                    rfl
                                  refine take_ (i := 6) (N := some 67) (v := ?_) (a' := ?_) #[true, true, true, true, true, true, true, true, true, true, false, false, false, false, false, false] rfl rfl (take_ofW HT_.out HW_.out (by kernel_rfl)) (fun _ _ _ h => h) (Or.inl ⟨by rfl, ?_⟩) hHeld ?_ ?_
                                  rotate_left
                                  · rintro w' ⟨s0, s1, s2, s3, s4⟩
                                    go_simp
                                    with_reducible rfl
                                  rotate_left
                                  · simp only [Act.put, List.setIfInBounds_toArray, List.set_cons_zero, List.set_cons_succ, i64_w, i32_w]
                                    rfl
                                  refine take_ (i := 10) (N := some 71) (v := ?_) (a' := ?_) #[true, true, true, true, true, true, true, true, true, true, true, false, false, false, false, false] rfl rfl (take_ofW HT_.out HW_.out (by kernel_rfl)) (fun _ _ _ h => h) (Or.inl ⟨by rfl, ?_⟩) hHeld ?_ ?_
                                  rotate_left
                                  · rintro w' ⟨s0, s1, s2, s3, s4⟩
                                    go_simp
                                    with_reducible rfl
                                  rotate_left
                                  · simp only [Act.put, List.setIfInBounds_toArray, List.set_cons_zero, List.set_cons_succ, i64_w, i32_w]
                                    rfl
                                  refine one_ (i := 11) (N := some 72) #[true, true, true, true, true, true, true, true, true, true, true, true, false, false, false, false] rfl rfl (one_of HT_.out (by kernel_rfl)) (by decide) (fun K hK => ?_)
                                  refine value_ (w1 := ?_) (v := ?_) (by rfl) rfl ?_ ?_
                                  rotate_left 2
                                  · go_simp
                                    constructor
                                    · rfl
                                    · rfl
                                  refine hK.out _ _ ⟨(World.cell?_alloc_lt _ _ _ (World.block_lt_of_cell? _ _ (hHeld.1))).trans (hHeld.1), (World.cell?_alloc_lt _ _ _ (World.block_lt_of_cell? _ _ (hHeld.2.1))).trans (hHeld.2.1), (World.cell?_alloc_lt _ _ _ (World.block_lt_of_cell? _ _ (hHeld.2.2.1))).trans (hHeld.2.2.1), (World.cell?_alloc_lt _ _ _ (World.block_lt_of_cell? _ _ (hHeld.2.2.2.1))).trans (hHeld.2.2.2.1), (World.cell?_alloc_lt _ _ _ (World.block_lt_of_cell? _ _ (((HB.out.cell (World.block_lt_of_cell? w _ hw141_0)).trans hw141_0)))).trans (((HB.out.cell (World.block_lt_of_cell? w _ hw141_0)).trans hw141_0))⟩ (fun hHeld => ?_)
                                  clear hK K
                                  refine norm_ (a' := ?_) ?_ ?_
                                  rotate_left
                                  · show Act.put _ (some 72) _ = _
                                    simp only [Act.put, List.setIfInBounds_toArray, List.set_cons_zero, List.set_cons_succ, i64_w, i32_w]
                                    rfl
                                  refine one_ (i := 12) (N := some 73) #[true, true, true, true, true, true, true, true, true, true, true, true, true, false, false, false] rfl rfl (one_of HT_.out (by kernel_rfl)) (by decide) (fun K hK => ?_)
                                  refine Kd.R_append_step (Kd.int .u8) (w0 := w) w.heap.size (by rfl) (.tmp 67) (.tmp 72) 22 5 (.int .u8 0) 1 rfl Try.underlying22 info5 rfl (by decide) (by omega) (.slice A140_3 ((rd_T62 y137 (ji45)).f3).length c140_3) ((rd_T62 y137 (ji45)).f3) (rd l1 x6_2) [.int .u8 (rd l1 x6_2)] (fun k_ => oki55 k_ ∨ ((fun _ => True)) k_ ∧ w53.heap.size ≤ k_) (fun _ => False) rfl rfl ?aP (fun _ hk => hk.elim) ?aF ?aO ?aB ?aS ?aL ?_
                                  (case aP => exact rfl)
                                  (case aB => exact (by repeat (first | (with_reducible first | exact HB.out | apply below_alloc | apply pw_below_drewN | apply below_drew1) | exact HB.out)))
                                  (case aF => exact (fun k_ hk => .inr ⟨trivial, hk⟩))
                                  (case aO => exact (by (with_reducible repeat (first | apply Kd.R_alloc | apply Kd.R_drewN | apply Kd.R_drew)); exact Kd.R_mono UU55.out (fun _ hk => .inl hk)))
                                  (case aS => exact (below_size (by repeat (first | (with_reducible first | exact HB.out | apply below_alloc | apply pw_below_drewN | apply below_drew1) | exact HB.out))))
                                  (case aL => have := LMc49.out; omega)
                                  intro v143 w56 ho hb hg hat
                                  (first | have HS0_ := cell_grown hg (hHeld.1) (by first | (rw [add_block]; exact (fun e_ => ((HL140_3.out.1 _ e_.symm).2) rfl)) | (show some (Addr.add _ _).block ≠ _; rw [add_block]; exact (fun e_ => ((HL140_3.out.1 _ e_.symm).2) rfl)) | exact (fun e_ => ((HL140_3.out.1 _ e_.symm).2) rfl)) | have HS0_ := cell_grown hg (cell_unalloc (hHeld.1) (by first | (rw [add_block]; exact Kd.S_lt HO139.out _ rfl) | (show (Addr.add _ _).block < _; rw [add_block]; exact Kd.S_lt HO139.out _ rfl) | exact Kd.S_lt HO139.out _ rfl)) (by first | (rw [add_block]; exact (fun e_ => ((HL140_3.out.1 _ e_.symm).2) rfl)) | (show some (Addr.add _ _).block ≠ _; rw [add_block]; exact (fun e_ => ((HL140_3.out.1 _ e_.symm).2) rfl)) | exact (fun e_ => ((HL140_3.out.1 _ e_.symm).2) rfl)))
                                  (first | have HS1_ := cell_grown hg (hHeld.2.1) (by first | (rw [add_block]; exact (fun e_ => ((HL140_3.out.1 _ e_.symm).2) rfl)) | (show some (Addr.add _ _).block ≠ _; rw [add_block]; exact (fun e_ => ((HL140_3.out.1 _ e_.symm).2) rfl)) | exact (fun e_ => ((HL140_3.out.1 _ e_.symm).2) rfl)) | have HS1_ := cell_grown hg (cell_unalloc (hHeld.2.1) (by first | (rw [add_block]; exact Kd.S_lt HO139.out _ rfl) | (show (Addr.add _ _).block < _; rw [add_block]; exact Kd.S_lt HO139.out _ rfl) | exact Kd.S_lt HO139.out _ rfl)) (by first | (rw [add_block]; exact (fun e_ => ((HL140_3.out.1 _ e_.symm).2) rfl)) | (show some (Addr.add _ _).block ≠ _; rw [add_block]; exact (fun e_ => ((HL140_3.out.1 _ e_.symm).2) rfl)) | exact (fun e_ => ((HL140_3.out.1 _ e_.symm).2) rfl)))
                                  (first | have HS2_ := cell_grown hg (hHeld.2.2.1) (by first | (rw [add_block]; exact (fun e_ => ((HL140_3.out.1 _ e_.symm).2) rfl)) | (show some (Addr.add _ _).block ≠ _; rw [add_block]; exact (fun e_ => ((HL140_3.out.1 _ e_.symm).2) rfl)) | exact (fun e_ => ((HL140_3.out.1 _ e_.symm).2) rfl)) | have HS2_ := cell_grown hg (cell_unalloc (hHeld.2.2.1) (by first | (rw [add_block]; exact Kd.S_lt HO139.out _ rfl) | (show (Addr.add _ _).block < _; rw [add_block]; exact Kd.S_lt HO139.out _ rfl) | exact Kd.S_lt HO139.out _ rfl)) (by first | (rw [add_block]; exact (fun e_ => ((HL140_3.out.1 _ e_.symm).2) rfl)) | (show some (Addr.add _ _).block ≠ _; rw [add_block]; exact (fun e_ => ((HL140_3.out.1 _ e_.symm).2) rfl)) | exact (fun e_ => ((HL140_3.out.1 _ e_.symm).2) rfl)))
                                  (first | have HS3_ := cell_grown hg (hHeld.2.2.2.1) (by first | (rw [add_block]; exact (fun e_ => ((HL140_3.out.1 _ e_.symm).2) rfl)) | (show some (Addr.add _ _).block ≠ _; rw [add_block]; exact (fun e_ => ((HL140_3.out.1 _ e_.symm).2) rfl)) | exact (fun e_ => ((HL140_3.out.1 _ e_.symm).2) rfl)) | have HS3_ := cell_grown hg (cell_unalloc (hHeld.2.2.2.1) (by first | (rw [add_block]; exact Kd.S_lt HO139.out _ rfl) | (show (Addr.add _ _).block < _; rw [add_block]; exact Kd.S_lt HO139.out _ rfl) | exact Kd.S_lt HO139.out _ rfl)) (by first | (rw [add_block]; exact (fun e_ => ((HL140_3.out.1 _ e_.symm).2) rfl)) | (show some (Addr.add _ _).block ≠ _; rw [add_block]; exact (fun e_ => ((HL140_3.out.1 _ e_.symm).2) rfl)) | exact (fun e_ => ((HL140_3.out.1 _ e_.symm).2) rfl)))
                                  rw [← Ny142.out] at ho
                                  have n0_ := Aside0.mk (hb)
                                  have n1_ := Aside0.mk (Kd.H_grown (Kd.H_widen (by repeat (first | exact HH55.out | refine Kd.H_alloc ?_ _ | refine Kd.H_drewN ?_ _ | refine Kd.H_drew ?_))) hg (fun k_ e_ => .inl (UU55.out.1 k_ e_)))
                                  have n2_ := Aside0.mk (ho)
                                  clear HB
                                  clear HH55
                                  clear HO139
                                  clear UU55
                                  clear HL130_3
                                  clear HL140_3
                                  have HB := n0_
                                  have HH55 := n1_
                                  have HO144 := n2_
                                  clear n0_ n1_ n2_
                                  clear ho hb hg hat
                                  have p50 : 0 ≤ ((ji45) : Int) := of_decide_eq_true (by first | (with_reducible assumption) | assumption)
                                  have q50 : ((ji45) : Int) < ((y137.length : Int) : Int) := of_decide_eq_true (by first | (with_reducible assumption) | assumption)
                                  replace p50 := eq_true p50
                                  replace q50 := eq_true q50
                                  obtain ⟨Ao59, co59, eo59⟩ := Kd.R_slice HO144.out
                                  (first | subst eo59 | (injection eo59 with f1_ f2_ f3_; have f4_ := f1_.symm; have f5_ := f3_.symm; clear f1_ f2_ f3_; subst f4_; subst f5_))
                                  obtain ⟨_, _, hraw57, _, _, hcc57, _⟩ := Kd.H_raw HH55.out (of_decide_eq_true (by first | (with_reducible assumption) | assumption)) (by have h_ : ((ji45) : Int) < ((y137.length : Int) : Int) := of_decide_eq_true (by first | (with_reducible assumption) | assumption); first | exact h_ | (have e_ := (HN55.out); omega) | simpa using h_)
                                  obtain ⟨_, hfr57⟩ := Kd.H_at HH55.out (of_decide_eq_true (by first | (with_reducible assumption) | assumption)) (by have h_ : ((ji45) : Int) < ((y137.length : Int) : Int) := of_decide_eq_true (by first | (with_reducible assumption) | assumption); first | exact h_ | (have e_ := (HN55.out); omega) | simpa using h_)
                                  have hx57_0 := hcc57 3 _ rfl
                                  have hf57_0 := hfr57 3
                                  (try rw [show (k62).sz = 4 from rfl] at hx57_0)
                                  (try rw [show (k62).sz = 4 from rfl] at hf57_0)
                                  have HP57 := Kd.S_seg0 HH55.out (of_decide_eq_true (by first | (with_reducible assumption) | assumption)) (by have h_ : ((ji45) : Int) < ((y137.length : Int) : Int) := of_decide_eq_true (by first | (with_reducible assumption) | assumption); first | exact h_ | (have e_ := (HN55.out); omega) | simpa using h_) (seg := [.slice Ao59 y142.length co59]) (j := 3) (show 4 ≤ 4 from by decide) (x' := (⟨(rd_T62 y137 (ji45)).f0, (rd_T62 y137 (ji45)).f1, (rd_T62 y137 (ji45)).f2, y142⟩ : S62)) (k62_mkM _ _ _ (⟨(rd_T62 y137 (ji45)).f0, (rd_T62 y137 (ji45)).f1, (rd_T62 y137 (ji45)).f2, y142⟩ : S62) HO144.out) (fun _ hk => hk)
                                  clear hcc57 hfr57
                                  have HS57 := HP57.1
                                  rw [← Ny145.out] at HS57
                                  have HQ57 := Aside0.mk HS57
                                  obtain ⟨_, hgg57⟩ := Kd.R_typed hraw57 go55 rfl
                                  have GG57_ := Aside0.mk hgg57
                                  clear HP57 HS57 hgg57
                                  refine hK.out _ _ ⟨HS0_, HS1_, HS2_, HS3_, ((HB.out.cell (World.block_lt_of_cell? w _ hw141_0)).trans hw141_0)⟩ (fun hHeld => ?_)
                                  clear hK K
                                  refine norm_ (a' := ?_) ?_ ?_
                                  rotate_left
                                  · show Act.put _ (some 73) _ = _
                                    simp only [Act.put, List.setIfInBounds_toArray, List.set_cons_zero, List.set_cons_succ, i64_w, i32_w]
                                    rfl
                                  refine pure_ (i := 13) (N := some 74) (v := ?_) (a' := ?_) #[true, true, true, true, true, true, true, true, true, true, true, true, true, true, false, false] rfl rfl (any_of HT_.out (by kernel_rfl)) (fun _ _ _ h => h) (Or.inl ⟨by rfl, ?_⟩) ?_ ?_
                                  rotate_left
                                  · intro w'
                                    go_simp
                                    with_reducible rfl
                                  rotate_left
                                  · simp only [Act.put, List.setIfInBounds_toArray, List.set_cons_zero, List.set_cons_succ, i64_w, i32_w]
                                    rfl
                                  refine pure_ (i := 14) (N := some 75) (v := ?_) (a' := ?_) #[true, true, true, true, true, true, true, true, true, true, true, true, true, true, true, false] rfl rfl (any_of HT_.out (by kernel_rfl)) (fun _ _ _ h => h) (Or.inl ⟨by rfl, ?_⟩) ?_ ?_
                                  rotate_left
                                  · intro w'
                                    go_simp
                                    with_reducible rfl
                                  rotate_left
                                  · simp only [Act.put, List.setIfInBounds_toArray, List.set_cons_zero, List.set_cons_succ, i64_w, i32_w]
                                    rfl
                                  refine last_ (i := 15) (N := none) #[true, true, true, true, true, true, true, true, true, true, true, true, true, true, true, true] rfl rfl (one_of HT_.out (by kernel_rfl)) (by decide) (fun K hK => ?_)
                                  refine skip_ (w1 := ?_) (by rfl) rfl ?_ ?_
                                  rotate_left
                                  · go_simp
                                    rfl
                                  refine hK.out _ _ ?_
                                  clear hK K
                                  refine done_ (done_of HT_.out (by kernel_rfl)) ?_
                                  try go_wp2
                                  go_roundg k2
                                  case measure => have := HJ2.out; have := HK2.out; omega
                                  case rel => exact ⟨(y145), (wrap64 (x6_2 + 1)), (by first | rfl | (simp; done) | (simp [*]; done)), H', ⟨by have := HJ2.out; have := HK2.out; omega⟩, ⟨by (with_reducible repeat (first | apply Kd.S_alloc | apply Kd.S_drewN | apply Kd.S_drew)); exact HQ57.out⟩, ⟨by repeat (first | (with_reducible first | exact HB.out | apply below_alloc | apply pw_below_drewN | apply below_drew1 | refine below_set ?_ GB55.out) | exact HB.out)⟩⟩
                                · rw [if_neg c49] at H
                                  exact absurd H (by simp)
                              · rw [if_neg c48] at H
                                exact absurd H (by simp)
                            · rw [if_neg c47] at H
                              exact absurd H (by simp)
                          · rw [if_neg c46] at H
                            exact absurd H (by simp)
                        · rw [if_neg c44] at H
                          exact absurd H (by simp)
                    · rw [if_neg c32] at H
                      exact absurd H (by simp)
                  · rw [if_neg c31] at H
                    exact absurd H (by simp)
            · rw [if_neg c8] at H
              have c8b0 : decide (x6_2 < (l1.length : Int)) = false := decide_eq_false c8
              clear c8
              by_cases c60 : (x5_2.length : Int) > 10000
              · rw [if_pos c60] at H
                have c60b0 : decide (10000 < (x5_2.length : Int)) = true := decide_eq_true c60
                have c60b1 : decide (10000 < x5_2.length) = true := decide_eq_true (by omega)
                clear c60
                obtain ⟨y113, hy113⟩ : ∃ y_ : List (S62), y_ = (([] : List (S62))) := ⟨_, rfl⟩
                replace H : (some y113) = some r := by first | (rw [hy113]; with_reducible exact H) | (have H2_ := (Option.bind_some _ _).symm.trans H; rw [hy113]; with_reducible exact H2_) | (have H2_ := (Option.bind_some _ _).symm.trans H; with_reducible exact H2_) | with_reducible exact H | (rw [hy113]; exact H) | exact H
                have Ny113 := Aside0.mk hy113
                clear hy113
                obtain rfl := Option.some.inj H
                obtain ⟨Ao61, co61, eo61⟩ := Kd.S_slice HO_5.out
                subst eo61
                go_wp2_with (first | ((with_reducible refine gate_dst (N := 81) rfl ?_); (try (refine gate_guard (by rfl) ?_; dsimp only)); refine Kd.S_lit k62 _ 62 ?hg (N := 81) ?hd (xs := ([] : List (S62))) (inner := []) (ok := fun _ => True) (okp := fun _ => True) ?hr ?hp (fun _ hk => hk) trivial (Below.refl _ _) (Nat.le_refl _) (by simp) ?_; (case hd => rfl); (case hg => rfl); (case hr => first | (go_simp; done) | (go_simp; rfl)); (case hp => exact (Reps.none _ _)); intro v114 w62 ho63 hb hg_ hnew_; clear hg_ hnew_; (first | rw [← Ny113.out] at ho63 | (simp only [Int.reduceToNat] at ho63; rw [← Ny113.out] at ho63)); have n0_ := Aside0.mk (Kd.S_elder' (by (with_reducible repeat (first | apply Kd.S_alloc | apply Kd.S_drewN | apply Kd.S_drew)); exact HO_5.out) (Kd.S_base ho63) hb); have n1_ := Aside0.mk (Kd.S_lower (Kd.S_new' ho63 (Kd.S_lt (by (with_reducible repeat (first | apply Kd.S_alloc | apply Kd.S_drewN | apply Kd.S_drew)); exact HO_5.out))) (below_size (by repeat (first | (with_reducible first | exact HB.out | apply below_alloc | apply pw_below_drewN | apply below_drew1) | exact HB.out)))); have n2_ := Aside0.mk (below_step (by repeat (first | (with_reducible first | exact HB.out | apply below_alloc | apply pw_below_drewN | apply below_drew1) | exact HB.out)) hb); clear HO_5; clear HB; have HO_5 := n0_; have HO115 := n1_; have HB := n2_; clear n0_ n1_ n2_; clear hb ho63))
                go_ret
                exact ⟨_, by first | rfl | (simp [errW_none, errW_some] <;> rfl) | (simp [*, errW_none, errW_some] <;> rfl), by (with_reducible repeat (first | apply Kd.S_alloc | apply Kd.S_drewN | apply Kd.S_drew)); exact Kd.S_mono HO115.out (fun _ hk => trivial), by repeat (first | (with_reducible first | exact HB.out | apply below_alloc | apply pw_below_drewN | apply below_drew1) | exact HB.out)⟩
              · rw [if_neg c60] at H
                have c60b0 : decide (10000 < (x5_2.length : Int)) = false := decide_eq_false c60
                have c60b1 : decide (10000 < x5_2.length) = false := decide_eq_false (by omega)
                clear c60
                obtain rfl := Option.some.inj H
                obtain ⟨Ao64, co64, eo64⟩ := Kd.S_slice HO_5.out
                subst eo64
                go_wp2
                go_ret
                exact ⟨_, by first | rfl | (simp [errW_none, errW_some] <;> rfl) | (simp [*, errW_none, errW_some] <;> rfl), by (with_reducible repeat (first | apply Kd.S_alloc | apply Kd.S_drewN | apply Kd.S_drew)); exact HO_5.out, by repeat (first | (with_reducible first | exact HB.out | apply below_alloc | apply pw_below_drewN | apply below_drew1) | exact HB.out)⟩

end Go.Proofs.Ytkijlpiiiejjkaa.PFnExactSaved
