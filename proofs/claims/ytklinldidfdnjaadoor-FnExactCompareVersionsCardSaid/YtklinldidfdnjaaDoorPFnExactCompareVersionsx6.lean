-- Laid by a program of this session: a turned copy of the kit's print, with contracts by hand beside.
import Derived.Test.YtklinldidfdnjaaDoorPFnExactCompareVersionsx0
import Derived.Test.YtklinldidfdnjaaDoorPFnExactCompareVersionsx5
namespace Go.Proofs.YtklinldidfdnjaaDoor.PFnExactCompareVersions
open Go.RowKit Go.Proofs.YtklinldidfdnjaaDoorW.PrintWords Go.Proofs.YtklinldidfdnjaaDoorW.PrintLast Go.Proofs.YtklinldidfdnjaaDoorW.PrintMore
attribute [local go_sem] max2_int min2_int max_two min_two max_three min_three max_four min_four   -- for this text's walks alone
set_option linter.unusedVariables false
set_option linter.unusedSimpArgs false

/-! ### impl_CompareVersions: function 14 -/
mutual
def impl_CompareVersions.j0 : Nat → List (S62) → List (S62) → Bool → Option (Int)
  | 0, _, _, _ => none
  | k + 1, x5, x7, x28 => if x28 = true then (some 2) else (impl_CompareVersions.l0 k x5 x7 0)
def impl_CompareVersions.l0 : Nat → List (S62) → List (S62) → Int → Option (Int)
  | 0, _, _, _ => none
  | k + 1, x5, x7, x9 => if x9 < (x5.length : Int) then (impl_CompareVersions.j2 k x5 x7 x9 true) else (impl_CompareVersions.j2 k x5 x7 x9 (decide (x9 < (x7.length : Int))))
def impl_CompareVersions.j2 : Nat → List (S62) → List (S62) → Int → Bool → Option (Int)
  | 0, _, _, _, _ => none
  | k + 1, x5, x7, x9, x38 => if x38 = true then ((impl_rank.f x5 x9).bind fun t174 => ((impl_rank.f x7 x9).bind fun t175 => (if (wrap64 (t174 - t175)) = 0 then (impl_CompareVersions.j3 k x5 x7 x9 t174 (wrap64 (t174 - t175)) (t174 == 0)) else (impl_CompareVersions.j3 k x5 x7 x9 t174 (wrap64 (t174 - t175)) false)))) else (some 0)
def impl_CompareVersions.j3 : Nat → List (S62) → List (S62) → Int → Int → Int → Bool → Option (Int)
  | 0, _, _, _, _, _, _ => none
  | k + 1, x5, x7, x9, x10, x12, x55 => if x55 = true then (if 0 ≤ x9 then (if x9 < (x5.length : Int) then (if x9 < (x7.length : Int) then ((strings_Compare.f ((rd_T62 x5 x9).f1) ((rd_T62 x7 x9).f1)).bind fun t178 => (impl_CompareVersions.j4 k x5 x7 x9 x10 t178)) else (none)) else (none)) else (none)) else (impl_CompareVersions.j4 k x5 x7 x9 x10 x12)
def impl_CompareVersions.j4 : Nat → List (S62) → List (S62) → Int → Int → Int → Option (Int)
  | 0, _, _, _, _, _ => none
  | k + 1, x5, x7, x9, x10, x12 => if x12 = 0 then (impl_CompareVersions.j5 k x5 x7 x9 x12 (x10 == 2)) else (impl_CompareVersions.j5 k x5 x7 x9 x12 false)
def impl_CompareVersions.j5 : Nat → List (S62) → List (S62) → Int → Int → Bool → Option (Int)
  | 0, _, _, _, _, _ => none
  | k + 1, x5, x7, x9, x12, x72 => if x72 = true then (if 0 ≤ x9 then (if x9 < (x5.length : Int) then (if x9 < (x7.length : Int) then (if ((rd_T62 x5 x9).f0) < ((rd_T62 x7 x9).f0) then (impl_CompareVersions.j6 k x5 x7 x9 (-1)) else (if ((rd_T62 x5 x9).f0) > ((rd_T62 x7 x9).f0) then (impl_CompareVersions.j6 k x5 x7 x9 1) else (impl_CompareVersions.j6 k x5 x7 x9 x12))) else (none)) else (none)) else (none)) else (impl_CompareVersions.j6 k x5 x7 x9 x12)
def impl_CompareVersions.j6 : Nat → List (S62) → List (S62) → Int → Int → Option (Int)
  | 0, _, _, _, _ => none
  | k + 1, x5, x7, x9, x12 => if x12 < 0 then (some (-1)) else (if x12 > 0 then (some 1) else (impl_CompareVersions.l0 k x5 x7 (wrap64 (x9 + 1))))
end
def impl_CompareVersions.f (k : Nat) (a0 : ByteArray) (a1 : ByteArray) : Option (Int) := (impl_parts.f k a0).bind fun bt166 => ((impl_parts.f k a1).bind fun bt170 => (if bt166.2 = true then (impl_CompareVersions.j0 k bt166.1 bt170.1 (!bt170.2)) else (impl_CompareVersions.j0 k bt166.1 bt170.1 true)))
theorem impl_CompareVersions.mono_l : ∀ k, (∀ y0 y1 y2, LeO (impl_CompareVersions.j0 k y0 y1 y2) (impl_CompareVersions.j0 (k + 1) y0 y1 y2)) ∧ (∀ y0 y1 y2, LeO (impl_CompareVersions.l0 k y0 y1 y2) (impl_CompareVersions.l0 (k + 1) y0 y1 y2)) ∧ (∀ y0 y1 y2 y3, LeO (impl_CompareVersions.j2 k y0 y1 y2 y3) (impl_CompareVersions.j2 (k + 1) y0 y1 y2 y3)) ∧ (∀ y0 y1 y2 y3 y4 y5, LeO (impl_CompareVersions.j3 k y0 y1 y2 y3 y4 y5) (impl_CompareVersions.j3 (k + 1) y0 y1 y2 y3 y4 y5)) ∧ (∀ y0 y1 y2 y3 y4, LeO (impl_CompareVersions.j4 k y0 y1 y2 y3 y4) (impl_CompareVersions.j4 (k + 1) y0 y1 y2 y3 y4)) ∧ (∀ y0 y1 y2 y3 y4, LeO (impl_CompareVersions.j5 k y0 y1 y2 y3 y4) (impl_CompareVersions.j5 (k + 1) y0 y1 y2 y3 y4)) ∧ (∀ y0 y1 y2 y3, LeO (impl_CompareVersions.j6 k y0 y1 y2 y3) (impl_CompareVersions.j6 (k + 1) y0 y1 y2 y3))
  | 0 => ⟨fun _ _ _ r h => by simp [impl_CompareVersions.j0] at h, fun _ _ _ r h => by simp [impl_CompareVersions.l0] at h, fun _ _ _ _ r h => by simp [impl_CompareVersions.j2] at h, fun _ _ _ _ _ _ r h => by simp [impl_CompareVersions.j3] at h, fun _ _ _ _ _ r h => by simp [impl_CompareVersions.j4] at h, fun _ _ _ _ _ r h => by simp [impl_CompareVersions.j5] at h, fun _ _ _ _ r h => by simp [impl_CompareVersions.j6] at h⟩
  | k + 1 => by
    obtain ⟨ih0, ih1, ih2, ih3, ih4, ih5, ih6⟩ := impl_CompareVersions.mono_l k
    refine ⟨?_, ?_, ?_, ?_, ?_, ?_, ?_⟩
    · intro y0 y1 y2
      unfold impl_CompareVersions.j0
      repeat' first
      | (with_reducible exact ih0 _ _ _)
      | (with_reducible exact ih1 _ _ _)
      | (with_reducible exact ih2 _ _ _ _)
      | (with_reducible exact ih3 _ _ _ _ _ _)
      | (with_reducible exact ih4 _ _ _ _ _)
      | (with_reducible exact ih5 _ _ _ _ _)
      | (with_reducible exact ih6 _ _ _ _)
      | (with_reducible exact impl_parts.mono _ _)
      | (with_reducible exact LeO.refl _)
      | (with_reducible exact LeO.none _)
      | (with_reducible refine LeO.ite ?_ ?_)
      | (with_reducible refine LeO.bind ?_ (fun _ => ?_))
      | exact ih0 _ _ _
      | exact ih1 _ _ _
      | exact ih2 _ _ _ _
      | exact ih3 _ _ _ _ _ _
      | exact ih4 _ _ _ _ _
      | exact ih5 _ _ _ _ _
      | exact ih6 _ _ _ _
      | exact impl_parts.mono _ _
      | exact LeO.none _
      | refine LeO.ite ?_ ?_
      | refine LeO.bind ?_ (fun _ => ?_)
    · intro y0 y1 y2
      unfold impl_CompareVersions.l0
      repeat' first
      | (with_reducible exact ih0 _ _ _)
      | (with_reducible exact ih1 _ _ _)
      | (with_reducible exact ih2 _ _ _ _)
      | (with_reducible exact ih3 _ _ _ _ _ _)
      | (with_reducible exact ih4 _ _ _ _ _)
      | (with_reducible exact ih5 _ _ _ _ _)
      | (with_reducible exact ih6 _ _ _ _)
      | (with_reducible exact impl_parts.mono _ _)
      | (with_reducible exact LeO.refl _)
      | (with_reducible exact LeO.none _)
      | (with_reducible refine LeO.ite ?_ ?_)
      | (with_reducible refine LeO.bind ?_ (fun _ => ?_))
      | exact ih0 _ _ _
      | exact ih1 _ _ _
      | exact ih2 _ _ _ _
      | exact ih3 _ _ _ _ _ _
      | exact ih4 _ _ _ _ _
      | exact ih5 _ _ _ _ _
      | exact ih6 _ _ _ _
      | exact impl_parts.mono _ _
      | exact LeO.none _
      | refine LeO.ite ?_ ?_
      | refine LeO.bind ?_ (fun _ => ?_)
    · intro y0 y1 y2 y3
      unfold impl_CompareVersions.j2
      repeat' first
      | (with_reducible exact ih0 _ _ _)
      | (with_reducible exact ih1 _ _ _)
      | (with_reducible exact ih2 _ _ _ _)
      | (with_reducible exact ih3 _ _ _ _ _ _)
      | (with_reducible exact ih4 _ _ _ _ _)
      | (with_reducible exact ih5 _ _ _ _ _)
      | (with_reducible exact ih6 _ _ _ _)
      | (with_reducible exact impl_parts.mono _ _)
      | (with_reducible exact LeO.refl _)
      | (with_reducible exact LeO.none _)
      | (with_reducible refine LeO.ite ?_ ?_)
      | (with_reducible refine LeO.bind ?_ (fun _ => ?_))
      | exact ih0 _ _ _
      | exact ih1 _ _ _
      | exact ih2 _ _ _ _
      | exact ih3 _ _ _ _ _ _
      | exact ih4 _ _ _ _ _
      | exact ih5 _ _ _ _ _
      | exact ih6 _ _ _ _
      | exact impl_parts.mono _ _
      | exact LeO.none _
      | refine LeO.ite ?_ ?_
      | refine LeO.bind ?_ (fun _ => ?_)
    · intro y0 y1 y2 y3 y4 y5
      unfold impl_CompareVersions.j3
      repeat' first
      | (with_reducible exact ih0 _ _ _)
      | (with_reducible exact ih1 _ _ _)
      | (with_reducible exact ih2 _ _ _ _)
      | (with_reducible exact ih3 _ _ _ _ _ _)
      | (with_reducible exact ih4 _ _ _ _ _)
      | (with_reducible exact ih5 _ _ _ _ _)
      | (with_reducible exact ih6 _ _ _ _)
      | (with_reducible exact impl_parts.mono _ _)
      | (with_reducible exact LeO.refl _)
      | (with_reducible exact LeO.none _)
      | (with_reducible refine LeO.ite ?_ ?_)
      | (with_reducible refine LeO.bind ?_ (fun _ => ?_))
      | exact ih0 _ _ _
      | exact ih1 _ _ _
      | exact ih2 _ _ _ _
      | exact ih3 _ _ _ _ _ _
      | exact ih4 _ _ _ _ _
      | exact ih5 _ _ _ _ _
      | exact ih6 _ _ _ _
      | exact impl_parts.mono _ _
      | exact LeO.none _
      | refine LeO.ite ?_ ?_
      | refine LeO.bind ?_ (fun _ => ?_)
    · intro y0 y1 y2 y3 y4
      unfold impl_CompareVersions.j4
      repeat' first
      | (with_reducible exact ih0 _ _ _)
      | (with_reducible exact ih1 _ _ _)
      | (with_reducible exact ih2 _ _ _ _)
      | (with_reducible exact ih3 _ _ _ _ _ _)
      | (with_reducible exact ih4 _ _ _ _ _)
      | (with_reducible exact ih5 _ _ _ _ _)
      | (with_reducible exact ih6 _ _ _ _)
      | (with_reducible exact impl_parts.mono _ _)
      | (with_reducible exact LeO.refl _)
      | (with_reducible exact LeO.none _)
      | (with_reducible refine LeO.ite ?_ ?_)
      | (with_reducible refine LeO.bind ?_ (fun _ => ?_))
      | exact ih0 _ _ _
      | exact ih1 _ _ _
      | exact ih2 _ _ _ _
      | exact ih3 _ _ _ _ _ _
      | exact ih4 _ _ _ _ _
      | exact ih5 _ _ _ _ _
      | exact ih6 _ _ _ _
      | exact impl_parts.mono _ _
      | exact LeO.none _
      | refine LeO.ite ?_ ?_
      | refine LeO.bind ?_ (fun _ => ?_)
    · intro y0 y1 y2 y3 y4
      unfold impl_CompareVersions.j5
      repeat' first
      | (with_reducible exact ih0 _ _ _)
      | (with_reducible exact ih1 _ _ _)
      | (with_reducible exact ih2 _ _ _ _)
      | (with_reducible exact ih3 _ _ _ _ _ _)
      | (with_reducible exact ih4 _ _ _ _ _)
      | (with_reducible exact ih5 _ _ _ _ _)
      | (with_reducible exact ih6 _ _ _ _)
      | (with_reducible exact impl_parts.mono _ _)
      | (with_reducible exact LeO.refl _)
      | (with_reducible exact LeO.none _)
      | (with_reducible refine LeO.ite ?_ ?_)
      | (with_reducible refine LeO.bind ?_ (fun _ => ?_))
      | exact ih0 _ _ _
      | exact ih1 _ _ _
      | exact ih2 _ _ _ _
      | exact ih3 _ _ _ _ _ _
      | exact ih4 _ _ _ _ _
      | exact ih5 _ _ _ _ _
      | exact ih6 _ _ _ _
      | exact impl_parts.mono _ _
      | exact LeO.none _
      | refine LeO.ite ?_ ?_
      | refine LeO.bind ?_ (fun _ => ?_)
    · intro y0 y1 y2 y3
      unfold impl_CompareVersions.j6
      repeat' first
      | (with_reducible exact ih0 _ _ _)
      | (with_reducible exact ih1 _ _ _)
      | (with_reducible exact ih2 _ _ _ _)
      | (with_reducible exact ih3 _ _ _ _ _ _)
      | (with_reducible exact ih4 _ _ _ _ _)
      | (with_reducible exact ih5 _ _ _ _ _)
      | (with_reducible exact ih6 _ _ _ _)
      | (with_reducible exact impl_parts.mono _ _)
      | (with_reducible exact LeO.refl _)
      | (with_reducible exact LeO.none _)
      | (with_reducible refine LeO.ite ?_ ?_)
      | (with_reducible refine LeO.bind ?_ (fun _ => ?_))
      | exact ih0 _ _ _
      | exact ih1 _ _ _
      | exact ih2 _ _ _ _
      | exact ih3 _ _ _ _ _ _
      | exact ih4 _ _ _ _ _
      | exact ih5 _ _ _ _ _
      | exact ih6 _ _ _ _
      | exact impl_parts.mono _ _
      | exact LeO.none _
      | refine LeO.ite ?_ ?_
      | refine LeO.bind ?_ (fun _ => ?_)
theorem impl_CompareVersions.mono : ∀ a0 a1 k, LeO (impl_CompareVersions.f k a0 a1) (impl_CompareVersions.f (k + 1) a0 a1) := by
  intro a0 a1 k
  obtain ⟨ih0, ih1, ih2, ih3, ih4, ih5, ih6⟩ := impl_CompareVersions.mono_l k
  unfold impl_CompareVersions.f
  repeat' first
      | (with_reducible exact ih0 _ _ _)
      | (with_reducible exact ih1 _ _ _)
      | (with_reducible exact ih2 _ _ _ _)
      | (with_reducible exact ih3 _ _ _ _ _ _)
      | (with_reducible exact ih4 _ _ _ _ _)
      | (with_reducible exact ih5 _ _ _ _ _)
      | (with_reducible exact ih6 _ _ _ _)
      | (with_reducible exact impl_parts.mono _ _)
      | (with_reducible exact LeO.refl _)
      | (with_reducible exact LeO.none _)
      | (with_reducible refine LeO.ite ?_ ?_)
      | (with_reducible refine LeO.bind ?_ (fun _ => ?_))
      | exact ih0 _ _ _
      | exact ih1 _ _ _
      | exact ih2 _ _ _ _
      | exact ih3 _ _ _ _ _ _
      | exact ih4 _ _ _ _ _
      | exact ih5 _ _ _ _ _
      | exact ih6 _ _ _ _
      | exact impl_parts.mono _ _
      | exact LeO.none _
      | refine LeO.ite ?_ ?_
      | refine LeO.bind ?_ (fun _ => ?_)
set_option maxHeartbeats 8000000 in
set_option maxRecDepth 100000 in
theorem impl_CompareVersions.calls (k : Nat) (a0 : ByteArray) (a1 : ByteArray) (r : Int) (w : World) (h : impl_CompareVersions.f k a0 a1 = some r) :
    Calls Tryd.prog 14 #[.string a0, .string a1] w fun e w' => e = .returned (.int .i64 r) ∧ Below w.heap.size w w' := by
  have HB := Aside0.mk (Below.refl w.heap.size w)
  have H : ((impl_parts.f k a0).bind fun bt166 => ((impl_parts.f k a1).bind fun bt170 => (if bt166.2 = true then (impl_CompareVersions.j0 k bt166.1 bt170.1 (!bt170.2)) else (impl_CompareVersions.j0 k bt166.1 bt170.1 true)))) = some r := h
  clear h
  replace H := Option.bind_eq_some_iff.mp H
  obtain ⟨⟨t166, t167⟩, A30, H⟩ := H
  replace H : ((impl_parts.f k a1).bind fun bt170 => (if t167 = true then (impl_CompareVersions.j0 k t166 bt170.1 (!bt170.2)) else (impl_CompareVersions.j0 k t166 bt170.1 true))) = some r := H
  have A3 := Aside0.mk A30
  clear A30
  replace H := Option.bind_eq_some_iff.mp H
  obtain ⟨⟨t170, t171⟩, A40, H⟩ := H
  replace H : (if t167 = true then (impl_CompareVersions.j0 k t166 t170 (!t171)) else (impl_CompareVersions.j0 k t166 t170 true)) = some r := H
  have A4 := Aside0.mk A40
  clear A40
  have HC5 := Aside0.mk H
  clear H
  go_enter Tryd.func14, Tryd.ntmps14
  go_upto_region 3 with (first | (go_at_call 38; (with_reducible refine (impl_parts.calls k a0 t166 t167 _ A3.out).mono ?_); rintro e w6 ⟨v168, rfl, ho0, hb⟩; have n0_ := Aside0.mk (Kd.R_lower ho0 (below_size (by repeat (first | (with_reducible first | exact HB.out | apply below_alloc | apply pw_below_drewN | apply below_drew1) | exact HB.out)))); have n1_ := Aside0.mk (below_step (by repeat (first | (with_reducible first | exact HB.out | apply below_alloc | apply pw_below_drewN | apply below_drew1) | exact HB.out)) hb); clear HB; have HO169 := n0_; have HB := n1_; clear n0_ n1_; (try clear hb); (try clear hb2); (try clear hk); (try clear hi); (try clear ho0)) | (go_at_call 38; (with_reducible refine (impl_parts.calls k a1 t170 t171 _ A4.out).mono ?_); rintro e w7 ⟨v172, rfl, ho0, hb⟩; have n0_ := Aside0.mk (Kd.R_elder' (by (with_reducible repeat (first | apply Kd.R_alloc | apply Kd.R_drewN | apply Kd.R_drew)); exact HO169.out) (Kd.R_base ho0) hb); have n1_ := Aside0.mk (Kd.R_lower (Kd.R_new' ho0 (Kd.R_lt (by (with_reducible repeat (first | apply Kd.R_alloc | apply Kd.R_drewN | apply Kd.R_drew)); exact HO169.out))) (below_size (by repeat (first | (with_reducible first | exact HB.out | apply below_alloc | apply pw_below_drewN | apply below_drew1) | exact HB.out)))); have n2_ := Aside0.mk (below_step (by repeat (first | (with_reducible first | exact HB.out | apply below_alloc | apply pw_below_drewN | apply below_drew1) | exact HB.out)) hb); clear HO169; clear HB; have HO169 := n0_; have HO173 := n1_; have HB := n2_; clear n0_ n1_ n2_; (try clear hb); (try clear hb2); (try clear hk); (try clear hi); (try clear ho0)))
  repeat (go_quiet (first | (go_at_call 38; (with_reducible refine (impl_parts.calls k a0 t166 t167 _ A3.out).mono ?_); rintro e w6 ⟨v168, rfl, ho0, hb⟩; have n0_ := Aside0.mk (Kd.R_lower ho0 (below_size (by repeat (first | (with_reducible first | exact HB.out | apply below_alloc | apply pw_below_drewN | apply below_drew1) | exact HB.out)))); have n1_ := Aside0.mk (below_step (by repeat (first | (with_reducible first | exact HB.out | apply below_alloc | apply pw_below_drewN | apply below_drew1) | exact HB.out)) hb); clear HB; have HO169 := n0_; have HB := n1_; clear n0_ n1_; (try clear hb); (try clear hb2); (try clear hk); (try clear hi); (try clear ho0)) | (go_at_call 38; (with_reducible refine (impl_parts.calls k a1 t170 t171 _ A4.out).mono ?_); rintro e w7 ⟨v172, rfl, ho0, hb⟩; have n0_ := Aside0.mk (Kd.R_elder' (by (with_reducible repeat (first | apply Kd.R_alloc | apply Kd.R_drewN | apply Kd.R_drew)); exact HO169.out) (Kd.R_base ho0) hb); have n1_ := Aside0.mk (Kd.R_lower (Kd.R_new' ho0 (Kd.R_lt (by (with_reducible repeat (first | apply Kd.R_alloc | apply Kd.R_drewN | apply Kd.R_drew)); exact HO169.out))) (below_size (by repeat (first | (with_reducible first | exact HB.out | apply below_alloc | apply pw_below_drewN | apply below_drew1) | exact HB.out)))); have n2_ := Aside0.mk (below_step (by repeat (first | (with_reducible first | exact HB.out | apply below_alloc | apply pw_below_drewN | apply below_drew1) | exact HB.out)) hb); clear HO169; clear HB; have HO169 := n0_; have HO173 := n1_; have HB := n2_; clear n0_ n1_ n2_; (try clear hb); (try clear hb2); (try clear hk); (try clear hi); (try clear ho0))); go_upto_region 3 with (first | (go_at_call 38; (with_reducible refine (impl_parts.calls k a0 t166 t167 _ A3.out).mono ?_); rintro e w6 ⟨v168, rfl, ho0, hb⟩; have n0_ := Aside0.mk (Kd.R_lower ho0 (below_size (by repeat (first | (with_reducible first | exact HB.out | apply below_alloc | apply pw_below_drewN | apply below_drew1) | exact HB.out)))); have n1_ := Aside0.mk (below_step (by repeat (first | (with_reducible first | exact HB.out | apply below_alloc | apply pw_below_drewN | apply below_drew1) | exact HB.out)) hb); clear HB; have HO169 := n0_; have HB := n1_; clear n0_ n1_; (try clear hb); (try clear hb2); (try clear hk); (try clear hi); (try clear ho0)) | (go_at_call 38; (with_reducible refine (impl_parts.calls k a1 t170 t171 _ A4.out).mono ?_); rintro e w7 ⟨v172, rfl, ho0, hb⟩; have n0_ := Aside0.mk (Kd.R_elder' (by (with_reducible repeat (first | apply Kd.R_alloc | apply Kd.R_drewN | apply Kd.R_drew)); exact HO169.out) (Kd.R_base ho0) hb); have n1_ := Aside0.mk (Kd.R_lower (Kd.R_new' ho0 (Kd.R_lt (by (with_reducible repeat (first | apply Kd.R_alloc | apply Kd.R_drewN | apply Kd.R_drew)); exact HO169.out))) (below_size (by repeat (first | (with_reducible first | exact HB.out | apply below_alloc | apply pw_below_drewN | apply below_drew1) | exact HB.out)))); have n2_ := Aside0.mk (below_step (by repeat (first | (with_reducible first | exact HB.out | apply below_alloc | apply pw_below_drewN | apply below_drew1) | exact HB.out)) hb); clear HO169; clear HB; have HO169 := n0_; have HO173 := n1_; have HB := n2_; clear n0_ n1_ n2_; (try clear hb); (try clear hb2); (try clear hk); (try clear hi); (try clear ho0))))
  (try simp only [Act.put, List.setIfInBounds_toArray, List.set_cons_zero, List.set_cons_succ])
  go_cut [28] (fun v28 wc => ∃ (kq : Nat) (x28_4 : Bool), v28 = .bool x28_4 ∧ Aside0 (impl_CompareVersions.j0 kq t166 t170 x28_4 = some r) ∧ Aside0 (kq ≤ k) ∧ Aside0 (Kd.R k62 62 wc w.heap.size (fun k_ => some k_ ≠ (v172 : Value).ownBlock) v168 t166) ∧ Aside0 (Kd.R k62 62 wc w.heap.size (fun k_ => some k_ ≠ (v168 : Value).ownBlock) v172 t170) ∧ Aside0 (Below w.heap.size w wc))
  case first =>
    have H := HC5.out
    clear HC5
    by_cases c8 : t167 = true
    · subst c8
      have H1 : (impl_CompareVersions.j0 k t166 t170 (!t171)) = some r := by rw [if_pos rfl] at H; exact H
      clear H
      have H := H1
      clear H1
      have H' := Aside0.mk H
      clear H
      go_wp2
      repeat (go_quiet (fail); try go_wp2)
      go_meet
      case rel => exact ⟨_, (!t171), (by first | rfl | (simp; done) | (simp [*]; done)), H', ⟨by first | omega | exact Nat.le_refl _⟩, ⟨by (with_reducible repeat (first | apply Kd.R_alloc | apply Kd.R_drewN | apply Kd.R_drew)); exact Kd.R_mono HO169.out (fun _ hk => hk.2)⟩, ⟨by (with_reducible repeat (first | apply Kd.R_alloc | apply Kd.R_drewN | apply Kd.R_drew)); exact Kd.R_mono HO173.out (fun _ hk => hk.2)⟩, ⟨by repeat (first | (with_reducible first | exact HB.out | apply below_alloc | apply pw_below_drewN | apply below_drew1) | exact HB.out)⟩⟩
    · replace c8 := Bool.eq_false_iff.mpr c8
      subst c8
      have H1 : (impl_CompareVersions.j0 k t166 t170 true) = some r := by rw [if_neg (show ¬ (false = true) by decide)] at H; exact H
      clear H
      have H := H1
      clear H1
      have H' := Aside0.mk H
      clear H
      go_wp2
      repeat (go_quiet (fail); try go_wp2)
      go_meet
      case rel => exact ⟨_, (true), (by first | rfl | (simp; done) | (simp [*]; done)), H', ⟨by first | omega | exact Nat.le_refl _⟩, ⟨by (with_reducible repeat (first | apply Kd.R_alloc | apply Kd.R_drewN | apply Kd.R_drew)); exact Kd.R_mono HO169.out (fun _ hk => hk.2)⟩, ⟨by (with_reducible repeat (first | apply Kd.R_alloc | apply Kd.R_drewN | apply Kd.R_drew)); exact Kd.R_mono HO173.out (fun _ hk => hk.2)⟩, ⟨by repeat (first | (with_reducible first | exact HB.out | apply below_alloc | apply pw_below_drewN | apply below_drew1) | exact HB.out)⟩⟩
  case rest =>
    clear HC5
    try clear c1
    try clear p2
    try clear c8
    obtain ⟨kq, x28_4, rfl, HA, HJ4, HO_5, HO_7, HB⟩ := hcut
    cases kq with
    | zero => exact absurd HA.out (by simp [impl_CompareVersions.j0])
    | succ kj4 =>
      have H := HA.out
      clear HA
      simp only [impl_CompareVersions.j0] at H
      by_cases c9 : x28_4 = true
      · subst c9
        have H1 : (some 2) = some r := by rw [if_pos rfl] at H; exact H
        clear H
        have H := H1
        clear H1
        obtain rfl := Option.some.inj H
        go_wp2
        repeat (go_quiet (fail); try go_wp2)
        go_ret
        exact ⟨by first | rfl | (simp [errW_none, errW_some] <;> rfl) | (simp [*, errW_none, errW_some] <;> rfl), by repeat (first | (with_reducible first | exact HB.out | apply below_alloc | apply pw_below_drewN | apply below_drew1) | exact HB.out)⟩
      · replace c9 := Bool.eq_false_iff.mpr c9
        subst c9
        have H1 : (impl_CompareVersions.l0 kj4 t166 t170 0) = some r := by rw [if_neg (show ¬ (false = true) by decide)] at H; exact H
        clear H
        have H := H1
        clear H1
        have H' := Aside0.mk H
        clear H
        go_wp2
        repeat (go_quiet (fail); try go_wp2)
        go_loopg [9] kj4 (fun kq v9 w' => ∃ (x9_2 : Int), v9 = .int .i64 x9_2 ∧ Aside0 (impl_CompareVersions.l0 kq t166 t170 x9_2 = some r) ∧ Aside0 (kq ≤ kj4) ∧ Aside0 (Kd.R k62 62 w' w.heap.size (fun k_ => some k_ ≠ (v172 : Value).ownBlock) v168 t166) ∧ Aside0 (Kd.R k62 62 w' w.heap.size (fun k_ => some k_ ≠ (v168 : Value).ownBlock) v172 t170) ∧ Aside0 (Below w.heap.size w w'))
        case atStart => exact ⟨(0), (by first | rfl | (simp; done) | (simp [*]; done)), H', ⟨Nat.le_refl _⟩, ⟨by (with_reducible repeat (first | apply Kd.R_alloc | apply Kd.R_drewN | apply Kd.R_drew)); exact HO_5.out⟩, ⟨by (with_reducible repeat (first | apply Kd.R_alloc | apply Kd.R_drewN | apply Kd.R_drew)); exact HO_7.out⟩, ⟨by repeat (first | (with_reducible first | exact HB.out | apply below_alloc | apply pw_below_drewN | apply below_drew1) | exact HB.out)⟩⟩
        case round =>
          clear H'
          try clear c1
          try clear p2
          try clear c8
          try clear c9
          try clear p2
          obtain ⟨x9_2, rfl, HA, HK2, HO_5, HO_7, HB⟩ := hrel
          cases gk with
          | zero => exact absurd HA.out (by simp [impl_CompareVersions.l0])
          | succ k2 =>
            have H := HA.out
            clear HA
            simp only [impl_CompareVersions.l0] at H
            have HC10 := Aside0.mk H
            clear H
            go_upto_region 6 with (fail)
            repeat (go_quiet (fail); go_upto_region 6 with (fail))
            go_cut [38] (fun v38 wc => ∃ (kq : Nat) (x38_9 : Bool), v38 = .bool x38_9 ∧ Aside0 (impl_CompareVersions.j2 kq t166 t170 x9_2 x38_9 = some r) ∧ Aside0 (kq ≤ k2) ∧ Aside0 (Kd.R k62 62 wc w.heap.size (fun k_ => some k_ ≠ (v172 : Value).ownBlock) v168 t166) ∧ Aside0 (Kd.R k62 62 wc w.heap.size (fun k_ => some k_ ≠ (v168 : Value).ownBlock) v172 t170) ∧ Aside0 (Below w.heap.size w wc))
            case first =>
              have H := HC10.out
              clear HC10
              by_cases c11 : x9_2 < (t166.length : Int)
              · rw [if_pos c11] at H
                have c11b0 : decide (x9_2 < (t166.length : Int)) = true := decide_eq_true c11
                clear c11
                (first | rw [c11b0] | (simp only [i64_w, i32_w]; rw [c11b0]) | skip)
                have H' := Aside0.mk H
                clear H
                obtain ⟨Ao12, co12, eo12⟩ := Kd.R_slice HO_5.out
                subst eo12
                go_wp2
                repeat (go_quiet (fail); try go_wp2)
                go_meet
                case rel => exact ⟨_, (true), (by first | rfl | (simp; done) | (simp [*]; done)), H', ⟨by have := HJ4.out; have := HK2.out; first | omega | exact Nat.le_refl _⟩, ⟨by (with_reducible repeat (first | apply Kd.R_alloc | apply Kd.R_drewN | apply Kd.R_drew)); exact HO_5.out⟩, ⟨by (with_reducible repeat (first | apply Kd.R_alloc | apply Kd.R_drewN | apply Kd.R_drew)); exact HO_7.out⟩, ⟨by repeat (first | (with_reducible first | exact HB.out | apply below_alloc | apply pw_below_drewN | apply below_drew1) | exact HB.out)⟩⟩
              · rw [if_neg c11] at H
                have c11b0 : decide (x9_2 < (t166.length : Int)) = false := decide_eq_false c11
                clear c11
                (first | rw [c11b0] | (simp only [i64_w, i32_w]; rw [c11b0]) | skip)
                have H' := Aside0.mk H
                clear H
                obtain ⟨Ao13, co13, eo13⟩ := Kd.R_slice HO_5.out
                subst eo13
                obtain ⟨Ao14, co14, eo14⟩ := Kd.R_slice HO_7.out
                subst eo14
                go_wp2
                repeat (go_quiet (fail); try go_wp2)
                go_meet
                case rel => exact ⟨_, (decide (x9_2 < (t170.length : Int))), (by first | rfl | (simp; done) | (simp [*]; done)), H', ⟨by have := HJ4.out; have := HK2.out; first | omega | exact Nat.le_refl _⟩, ⟨by (with_reducible repeat (first | apply Kd.R_alloc | apply Kd.R_drewN | apply Kd.R_drew)); exact HO_5.out⟩, ⟨by (with_reducible repeat (first | apply Kd.R_alloc | apply Kd.R_drewN | apply Kd.R_drew)); exact HO_7.out⟩, ⟨by repeat (first | (with_reducible first | exact HB.out | apply below_alloc | apply pw_below_drewN | apply below_drew1) | exact HB.out)⟩⟩
            case rest =>
              clear HC10
              try clear c1
              try clear p2
              try clear c8
              try clear c9
              try clear c11
              try clear c11b0
              try clear c14
              try clear p2
              obtain ⟨kq, x38_9, rfl, HA, HJ9, HO_5, HO_7, HB⟩ := hcut
              cases kq with
              | zero => exact absurd HA.out (by simp [impl_CompareVersions.j2])
              | succ kj9 =>
                have H := HA.out
                clear HA
                simp only [impl_CompareVersions.j2] at H
                by_cases c15 : x38_9 = true
                · subst c15
                  have H1 : ((impl_rank.f t166 x9_2).bind fun t174 => ((impl_rank.f t170 x9_2).bind fun t175 => (if (wrap64 (t174 - t175)) = 0 then (impl_CompareVersions.j3 kj9 t166 t170 x9_2 t174 (wrap64 (t174 - t175)) (t174 == 0)) else (impl_CompareVersions.j3 kj9 t166 t170 x9_2 t174 (wrap64 (t174 - t175)) false)))) = some r := by rw [if_pos rfl] at H; exact H
                  clear H
                  have H := H1
                  clear H1
                  replace H := Option.bind_eq_some_iff.mp H
                  obtain ⟨t174, A160, H⟩ := H
                  replace H : ((impl_rank.f t170 x9_2).bind fun t175 => (if (wrap64 (t174 - t175)) = 0 then (impl_CompareVersions.j3 kj9 t166 t170 x9_2 t174 (wrap64 (t174 - t175)) (t174 == 0)) else (impl_CompareVersions.j3 kj9 t166 t170 x9_2 t174 (wrap64 (t174 - t175)) false))) = some r := H
                  have A16 := Aside0.mk A160
                  clear A160
                  replace H := Option.bind_eq_some_iff.mp H
                  obtain ⟨t175, A170, H⟩ := H
                  replace H : (if (wrap64 (t174 - t175)) = 0 then (impl_CompareVersions.j3 kj9 t166 t170 x9_2 t174 (wrap64 (t174 - t175)) (t174 == 0)) else (impl_CompareVersions.j3 kj9 t166 t170 x9_2 t174 (wrap64 (t174 - t175)) false)) = some r := H
                  have A17 := Aside0.mk A170
                  clear A170
                  have HC18 := Aside0.mk H
                  clear H
                  obtain ⟨Ao19, co19, eo19⟩ := Kd.R_slice HO_5.out
                  subst eo19
                  go_upto_region 10 with (first | (go_at_call 39; (with_reducible refine (impl_rank.calls _ _ t166 x9_2 t174 _ ?side1 ?side2 A16.out).mono ?_); (case side1 => repeat (first | exact (Kd.R_reads' HO_5.out).2.2 | (with_reducible refine Kd.C_alloc ?_ _) | (with_reducible refine Kd.C_drewN ?_ _) | (with_reducible refine Kd.C_drew ?_))); (case side2 => exact (Kd.R_reads' HO_5.out).2.1); rintro e w' ⟨rfl, ⟨nd, rfl⟩⟩; (try first | exact ⟨rfl, _, World.drewN_drewN _ _ _⟩ | exact ⟨rfl, _, Eq.trans (World.drewN_drewN _ _ _) (congrArg (World.drewN _) (Nat.add_assoc _ _ _))⟩); obtain ⟨Ao20, co20, eo20⟩ := Kd.R_slice HO_7.out; subst eo20) | (go_at_call 39; (with_reducible refine (impl_rank.calls _ _ t170 x9_2 t175 _ ?side1 ?side2 A17.out).mono ?_); (case side1 => repeat (first | exact (Kd.R_reads' HO_7.out).2.2 | (with_reducible refine Kd.C_alloc ?_ _) | (with_reducible refine Kd.C_drewN ?_ _) | (with_reducible refine Kd.C_drew ?_))); (case side2 => exact (Kd.R_reads' HO_7.out).2.1); rintro e w' ⟨rfl, ⟨nd, rfl⟩⟩; (try first | exact ⟨rfl, _, World.drewN_drewN _ _ _⟩ | exact ⟨rfl, _, Eq.trans (World.drewN_drewN _ _ _) (congrArg (World.drewN _) (Nat.add_assoc _ _ _))⟩)))
                  repeat (go_quiet (first | (go_at_call 39; (with_reducible refine (impl_rank.calls _ _ t166 x9_2 t174 _ ?side1 ?side2 A16.out).mono ?_); (case side1 => repeat (first | exact (Kd.R_reads' HO_5.out).2.2 | (with_reducible refine Kd.C_alloc ?_ _) | (with_reducible refine Kd.C_drewN ?_ _) | (with_reducible refine Kd.C_drew ?_))); (case side2 => exact (Kd.R_reads' HO_5.out).2.1); rintro e w' ⟨rfl, ⟨nd, rfl⟩⟩; (try first | exact ⟨rfl, _, World.drewN_drewN _ _ _⟩ | exact ⟨rfl, _, Eq.trans (World.drewN_drewN _ _ _) (congrArg (World.drewN _) (Nat.add_assoc _ _ _))⟩); obtain ⟨Ao20, co20, eo20⟩ := Kd.R_slice HO_7.out; subst eo20) | (go_at_call 39; (with_reducible refine (impl_rank.calls _ _ t170 x9_2 t175 _ ?side1 ?side2 A17.out).mono ?_); (case side1 => repeat (first | exact (Kd.R_reads' HO_7.out).2.2 | (with_reducible refine Kd.C_alloc ?_ _) | (with_reducible refine Kd.C_drewN ?_ _) | (with_reducible refine Kd.C_drew ?_))); (case side2 => exact (Kd.R_reads' HO_7.out).2.1); rintro e w' ⟨rfl, ⟨nd, rfl⟩⟩; (try first | exact ⟨rfl, _, World.drewN_drewN _ _ _⟩ | exact ⟨rfl, _, Eq.trans (World.drewN_drewN _ _ _) (congrArg (World.drewN _) (Nat.add_assoc _ _ _))⟩))); go_upto_region 10 with (first | (go_at_call 39; (with_reducible refine (impl_rank.calls _ _ t166 x9_2 t174 _ ?side1 ?side2 A16.out).mono ?_); (case side1 => repeat (first | exact (Kd.R_reads' HO_5.out).2.2 | (with_reducible refine Kd.C_alloc ?_ _) | (with_reducible refine Kd.C_drewN ?_ _) | (with_reducible refine Kd.C_drew ?_))); (case side2 => exact (Kd.R_reads' HO_5.out).2.1); rintro e w' ⟨rfl, ⟨nd, rfl⟩⟩; (try first | exact ⟨rfl, _, World.drewN_drewN _ _ _⟩ | exact ⟨rfl, _, Eq.trans (World.drewN_drewN _ _ _) (congrArg (World.drewN _) (Nat.add_assoc _ _ _))⟩); obtain ⟨Ao20, co20, eo20⟩ := Kd.R_slice HO_7.out; subst eo20) | (go_at_call 39; (with_reducible refine (impl_rank.calls _ _ t170 x9_2 t175 _ ?side1 ?side2 A17.out).mono ?_); (case side1 => repeat (first | exact (Kd.R_reads' HO_7.out).2.2 | (with_reducible refine Kd.C_alloc ?_ _) | (with_reducible refine Kd.C_drewN ?_ _) | (with_reducible refine Kd.C_drew ?_))); (case side2 => exact (Kd.R_reads' HO_7.out).2.1); rintro e w' ⟨rfl, ⟨nd, rfl⟩⟩; (try first | exact ⟨rfl, _, World.drewN_drewN _ _ _⟩ | exact ⟨rfl, _, Eq.trans (World.drewN_drewN _ _ _) (congrArg (World.drewN _) (Nat.add_assoc _ _ _))⟩))))
                  (try simp only [Act.put, List.setIfInBounds_toArray, List.set_cons_zero, List.set_cons_succ])
                  go_cut [55] (fun v55 wc => ∃ (kq : Nat) (x55_17 : Bool), v55 = .bool x55_17 ∧ Aside0 (impl_CompareVersions.j3 kq t166 t170 x9_2 t174 (wrap64 (t174 - t175)) x55_17 = some r) ∧ Aside0 (kq ≤ kj9) ∧ Aside0 (Kd.R k62 62 wc w.heap.size (fun k_ => some k_ ≠ ((.slice Ao20 t170.length co20) : Value).ownBlock) (.slice Ao19 t166.length co19) t166) ∧ Aside0 (Kd.R k62 62 wc w.heap.size (fun k_ => some k_ ≠ ((.slice Ao19 t166.length co19) : Value).ownBlock) (.slice Ao20 t170.length co20) t170) ∧ Aside0 (Below w.heap.size w wc))
                  case first =>
                    have H := HC18.out
                    clear HC18
                    by_cases c21 : (wrap64 (t174 - t175)) = 0
                    · rw [if_pos c21] at H
                      have c21b0 : ((wrap64 (t174 - t175)) == 0) = true := beq_iff_eq.mpr c21
                      have c21b1 : ((wrap64 (t174 - t175)) != 0) = false := bne_eq_false_iff_eq.mpr c21
                      clear c21
                      (first | rw [c21b0] | (simp only [i64_w, i32_w]; rw [c21b0]) | skip)
                      have H' := Aside0.mk H
                      clear H
                      go_wp2
                      repeat (go_quiet (fail); try go_wp2)
                      go_meet
                      case rel => exact ⟨_, ((t174 == 0)), (by first | rfl | (simp; done) | (simp [*]; done)), H', ⟨by have := HJ4.out; have := HK2.out; have := HJ9.out; first | omega | exact Nat.le_refl _⟩, ⟨by (with_reducible repeat (first | apply Kd.R_alloc | apply Kd.R_drewN | apply Kd.R_drew)); exact HO_5.out⟩, ⟨by (with_reducible repeat (first | apply Kd.R_alloc | apply Kd.R_drewN | apply Kd.R_drew)); exact HO_7.out⟩, ⟨by repeat (first | (with_reducible first | exact HB.out | apply below_alloc | apply pw_below_drewN | apply below_drew1) | exact HB.out)⟩⟩
                    · rw [if_neg c21] at H
                      have c21b0 : ((wrap64 (t174 - t175)) == 0) = false := beq_eq_false_iff_ne.mpr c21
                      have c21b1 : ((wrap64 (t174 - t175)) != 0) = true := bne_iff_ne.mpr c21
                      (first | rw [c21b0] | (simp only [i64_w, i32_w]; rw [c21b0]) | skip)
                      have H' := Aside0.mk H
                      clear H
                      go_wp2
                      repeat (go_quiet (fail); try go_wp2)
                      go_meet
                      case rel => exact ⟨_, (false), (by first | rfl | (simp; done) | (simp [*]; done)), H', ⟨by have := HJ4.out; have := HK2.out; have := HJ9.out; first | omega | exact Nat.le_refl _⟩, ⟨by (with_reducible repeat (first | apply Kd.R_alloc | apply Kd.R_drewN | apply Kd.R_drew)); exact HO_5.out⟩, ⟨by (with_reducible repeat (first | apply Kd.R_alloc | apply Kd.R_drewN | apply Kd.R_drew)); exact HO_7.out⟩, ⟨by repeat (first | (with_reducible first | exact HB.out | apply below_alloc | apply pw_below_drewN | apply below_drew1) | exact HB.out)⟩⟩
                  case rest =>
                    clear HC18
                    try clear c1
                    try clear c2
                    try clear p2
                    try clear p6
                    try clear c8
                    try clear c9
                    try clear c11
                    try clear c11b0
                    try clear c14
                    try clear c15
                    try clear c21
                    try clear c21b0
                    try clear c21b1
                    try clear p2
                    obtain ⟨kq, x55_17, rfl, HA, HJ17, HO_5, HO_7, HB⟩ := hcut
                    cases kq with
                    | zero => exact absurd HA.out (by simp [impl_CompareVersions.j3])
                    | succ kj17 =>
                      have H := HA.out
                      clear HA
                      simp only [impl_CompareVersions.j3] at H
                      have HC22 := Aside0.mk H
                      clear H
                      go_upto_if 55 with (fail)
                      repeat (go_quiet (fail); go_upto_if 55 with (fail))
                      go_cut [12] (fun v12 wc => ∃ (kq : Nat) (x12_21 : Int), v12 = .int .i64 x12_21 ∧ Aside0 (impl_CompareVersions.j4 kq t166 t170 x9_2 t174 x12_21 = some r) ∧ Aside0 (kq ≤ kj17) ∧ Aside0 (Kd.R k62 62 wc w.heap.size (fun k_ => some k_ ≠ ((.slice Ao20 t170.length co20) : Value).ownBlock) (.slice Ao19 t166.length co19) t166) ∧ Aside0 (Kd.R k62 62 wc w.heap.size (fun k_ => some k_ ≠ ((.slice Ao19 t166.length co19) : Value).ownBlock) (.slice Ao20 t170.length co20) t170) ∧ Aside0 (Below w.heap.size w wc))
                      case first =>
                        have H := HC22.out
                        clear HC22
                        by_cases c23 : x55_17 = true
                        · subst c23
                          have H1 : (if 0 ≤ x9_2 then (if x9_2 < (t166.length : Int) then (if x9_2 < (t170.length : Int) then ((strings_Compare.f ((rd_T62 t166 x9_2).f1) ((rd_T62 t170 x9_2).f1)).bind fun t178 => (impl_CompareVersions.j4 kj17 t166 t170 x9_2 t174 t178)) else (none)) else (none)) else (none)) = some r := by rw [if_pos rfl] at H; exact H
                          clear H
                          have H := H1
                          clear H1
                          by_cases c24 : 0 ≤ x9_2
                          · rw [if_pos c24] at H
                            have c24b0 : decide (0 ≤ x9_2) = true := decide_eq_true c24
                            clear c24
                            (first | rw [c24b0] | (simp only [i64_w, i32_w]; rw [c24b0]) | skip)
                            by_cases c25 : x9_2 < (t166.length : Int)
                            · rw [if_pos c25] at H
                              have c25b0 : decide (x9_2 < (t166.length : Int)) = true := decide_eq_true c25
                              clear c25
                              by_cases c26 : x9_2 < (t170.length : Int)
                              · rw [if_pos c26] at H
                                have c26b0 : decide (x9_2 < (t170.length : Int)) = true := decide_eq_true c26
                                clear c26
                                replace H := Option.bind_eq_some_iff.mp H
                                obtain ⟨t178, A270, H⟩ := H
                                replace H : (impl_CompareVersions.j4 kj17 t166 t170 x9_2 t174 t178) = some r := H
                                have A27 := Aside0.mk A270
                                clear A270
                                have H' := Aside0.mk H
                                clear H
                                have p176 : 0 ≤ (x9_2 : Int) := of_decide_eq_true (by first | (with_reducible assumption) | assumption)
                                have q176 : x9_2 < (t166.length : Int) := of_decide_eq_true (by first | (with_reducible assumption) | assumption)
                                obtain ⟨ad176, e176, hx176_0, hx176_1⟩ := at_T62 (Kd.R_reads' HO_5.out).2.2 x9_2 p176 q176
                                cases e176
                                replace p176 := eq_true p176
                                replace q176 := eq_true q176
                                have p177 : 0 ≤ (x9_2 : Int) := of_decide_eq_true (by first | (with_reducible assumption) | assumption)
                                have q177 : x9_2 < (t170.length : Int) := of_decide_eq_true (by first | (with_reducible assumption) | assumption)
                                obtain ⟨ad177, e177, hx177_0, hx177_1⟩ := at_T62 (Kd.R_reads' HO_7.out).2.2 x9_2 p177 q177
                                cases e177
                                replace p177 := eq_true p177
                                replace q177 := eq_true q177
                                go_wp2_with (first | (go_at_call 40; (with_reducible refine (strings_Compare.calls ((rd_T62 t166 x9_2).f1) ((rd_T62 t170 x9_2).f1) t178 _ A27.out).mono ?_); rintro e w' ⟨rfl, ⟨nd, rfl⟩⟩; (try first | exact ⟨rfl, _, World.drewN_drewN _ _ _⟩ | exact ⟨rfl, _, Eq.trans (World.drewN_drewN _ _ _) (congrArg (World.drewN _) (Nat.add_assoc _ _ _))⟩)))
                                repeat (go_quiet (first | (go_at_call 40; (with_reducible refine (strings_Compare.calls ((rd_T62 t166 x9_2).f1) ((rd_T62 t170 x9_2).f1) t178 _ A27.out).mono ?_); rintro e w' ⟨rfl, ⟨nd, rfl⟩⟩; (try first | exact ⟨rfl, _, World.drewN_drewN _ _ _⟩ | exact ⟨rfl, _, Eq.trans (World.drewN_drewN _ _ _) (congrArg (World.drewN _) (Nat.add_assoc _ _ _))⟩))); try go_wp2_with (first | (go_at_call 40; (with_reducible refine (strings_Compare.calls ((rd_T62 t166 x9_2).f1) ((rd_T62 t170 x9_2).f1) t178 _ A27.out).mono ?_); rintro e w' ⟨rfl, ⟨nd, rfl⟩⟩; (try first | exact ⟨rfl, _, World.drewN_drewN _ _ _⟩ | exact ⟨rfl, _, Eq.trans (World.drewN_drewN _ _ _) (congrArg (World.drewN _) (Nat.add_assoc _ _ _))⟩))))
                                go_meet
                                case rel => exact ⟨_, (t178), (by first | rfl | (simp; done) | (simp [*]; done)), H', ⟨by have := HJ4.out; have := HK2.out; have := HJ9.out; have := HJ17.out; first | omega | exact Nat.le_refl _⟩, ⟨by (with_reducible repeat (first | apply Kd.R_alloc | apply Kd.R_drewN | apply Kd.R_drew)); exact HO_5.out⟩, ⟨by (with_reducible repeat (first | apply Kd.R_alloc | apply Kd.R_drewN | apply Kd.R_drew)); exact HO_7.out⟩, ⟨by repeat (first | (with_reducible first | exact HB.out | apply below_alloc | apply pw_below_drewN | apply below_drew1) | exact HB.out)⟩⟩
                              · rw [if_neg c26] at H
                                exact absurd H (by simp)
                            · rw [if_neg c25] at H
                              exact absurd H (by simp)
                          · rw [if_neg c24] at H
                            exact absurd H (by simp)
                        · replace c23 := Bool.eq_false_iff.mpr c23
                          subst c23
                          have H1 : (impl_CompareVersions.j4 kj17 t166 t170 x9_2 t174 (wrap64 (t174 - t175))) = some r := by rw [if_neg (show ¬ (false = true) by decide)] at H; exact H
                          clear H
                          have H := H1
                          clear H1
                          have H' := Aside0.mk H
                          clear H
                          go_wp2
                          repeat (go_quiet (fail); try go_wp2)
                          go_meet
                          case rel => exact ⟨_, ((wrap64 (t174 - t175))), (by first | rfl | (simp; done) | (simp [*]; done)), H', ⟨by have := HJ4.out; have := HK2.out; have := HJ9.out; have := HJ17.out; first | omega | exact Nat.le_refl _⟩, ⟨by (with_reducible repeat (first | apply Kd.R_alloc | apply Kd.R_drewN | apply Kd.R_drew)); exact HO_5.out⟩, ⟨by (with_reducible repeat (first | apply Kd.R_alloc | apply Kd.R_drewN | apply Kd.R_drew)); exact HO_7.out⟩, ⟨by repeat (first | (with_reducible first | exact HB.out | apply below_alloc | apply pw_below_drewN | apply below_drew1) | exact HB.out)⟩⟩
                      case rest =>
                        clear HC22
                        try clear c1
                        try clear p1
                        try clear q1
                        try clear hx1
                        try clear c2
                        try clear p2
                        try clear p6
                        try clear c8
                        try clear c9
                        try clear c11
                        try clear c11b0
                        try clear c14
                        try clear c15
                        try clear p17
                        try clear q17
                        try clear hx17
                        try clear c21
                        try clear c21b0
                        try clear c21b1
                        try clear c23
                        try clear c24
                        try clear c24b0
                        try clear c25
                        try clear c25b0
                        try clear c26
                        try clear c26b0
                        try clear hx176_0
                        try clear hx176_1
                        try clear hx177_0
                        try clear hx177_1
                        try clear p176
                        try clear p177
                        try clear p2
                        try clear p6
                        try clear q176
                        try clear q177
                        obtain ⟨kq, x12_21, rfl, HA, HJ21, HO_5, HO_7, HB⟩ := hcut
                        cases kq with
                        | zero => exact absurd HA.out (by simp [impl_CompareVersions.j4])
                        | succ kj21 =>
                          have H := HA.out
                          clear HA
                          simp only [impl_CompareVersions.j4] at H
                          have HC28 := Aside0.mk H
                          clear H
                          go_upto_region 12 with (fail)
                          repeat (go_quiet (fail); go_upto_region 12 with (fail))
                          go_cut [72] (fun v72 wc => ∃ (kq : Nat) (x72_27 : Bool), v72 = .bool x72_27 ∧ Aside0 (impl_CompareVersions.j5 kq t166 t170 x9_2 x12_21 x72_27 = some r) ∧ Aside0 (kq ≤ kj21) ∧ Aside0 (Kd.R k62 62 wc w.heap.size (fun k_ => some k_ ≠ ((.slice Ao20 t170.length co20) : Value).ownBlock) (.slice Ao19 t166.length co19) t166) ∧ Aside0 (Kd.R k62 62 wc w.heap.size (fun k_ => some k_ ≠ ((.slice Ao19 t166.length co19) : Value).ownBlock) (.slice Ao20 t170.length co20) t170) ∧ Aside0 (Below w.heap.size w wc))
                          case first =>
                            have H := HC28.out
                            clear HC28
                            by_cases c29 : x12_21 = 0
                            · rw [if_pos c29] at H
                              have c29b0 : (x12_21 == 0) = true := beq_iff_eq.mpr c29
                              have c29b1 : (x12_21 != 0) = false := bne_eq_false_iff_eq.mpr c29
                              clear c29
                              (first | rw [c29b0] | (simp only [i64_w, i32_w]; rw [c29b0]) | skip)
                              have H' := Aside0.mk H
                              clear H
                              go_wp2
                              repeat (go_quiet (fail); try go_wp2)
                              go_meet
                              case rel => exact ⟨_, ((t174 == 2)), (by first | rfl | (simp; done) | (simp [*]; done)), H', ⟨by have := HJ4.out; have := HK2.out; have := HJ9.out; have := HJ17.out; have := HJ21.out; first | omega | exact Nat.le_refl _⟩, ⟨by (with_reducible repeat (first | apply Kd.R_alloc | apply Kd.R_drewN | apply Kd.R_drew)); exact HO_5.out⟩, ⟨by (with_reducible repeat (first | apply Kd.R_alloc | apply Kd.R_drewN | apply Kd.R_drew)); exact HO_7.out⟩, ⟨by repeat (first | (with_reducible first | exact HB.out | apply below_alloc | apply pw_below_drewN | apply below_drew1) | exact HB.out)⟩⟩
                            · rw [if_neg c29] at H
                              have c29b0 : (x12_21 == 0) = false := beq_eq_false_iff_ne.mpr c29
                              have c29b1 : (x12_21 != 0) = true := bne_iff_ne.mpr c29
                              (first | rw [c29b0] | (simp only [i64_w, i32_w]; rw [c29b0]) | skip)
                              have H' := Aside0.mk H
                              clear H
                              go_wp2
                              repeat (go_quiet (fail); try go_wp2)
                              go_meet
                              case rel => exact ⟨_, (false), (by first | rfl | (simp; done) | (simp [*]; done)), H', ⟨by have := HJ4.out; have := HK2.out; have := HJ9.out; have := HJ17.out; have := HJ21.out; first | omega | exact Nat.le_refl _⟩, ⟨by (with_reducible repeat (first | apply Kd.R_alloc | apply Kd.R_drewN | apply Kd.R_drew)); exact HO_5.out⟩, ⟨by (with_reducible repeat (first | apply Kd.R_alloc | apply Kd.R_drewN | apply Kd.R_drew)); exact HO_7.out⟩, ⟨by repeat (first | (with_reducible first | exact HB.out | apply below_alloc | apply pw_below_drewN | apply below_drew1) | exact HB.out)⟩⟩
                          case rest =>
                            clear HC28
                            try clear c1
                            try clear p1
                            try clear q1
                            try clear hx1
                            try clear c2
                            try clear p2
                            try clear p6
                            try clear c8
                            try clear c9
                            try clear c11
                            try clear c11b0
                            try clear c14
                            try clear c15
                            try clear p17
                            try clear q17
                            try clear hx17
                            try clear c21
                            try clear c21b0
                            try clear c21b1
                            try clear c23
                            try clear c24
                            try clear c24b0
                            try clear c25
                            try clear c25b0
                            try clear c26
                            try clear c26b0
                            try clear c29
                            try clear c29b0
                            try clear c29b1
                            try clear hx176_0
                            try clear hx176_1
                            try clear hx177_0
                            try clear hx177_1
                            try clear p1
                            try clear p17
                            try clear p176
                            try clear p177
                            try clear p2
                            try clear p6
                            try clear q1
                            try clear q17
                            try clear q176
                            try clear q177
                            obtain ⟨kq, x72_27, rfl, HA, HJ27, HO_5, HO_7, HB⟩ := hcut
                            cases kq with
                            | zero => exact absurd HA.out (by simp [impl_CompareVersions.j5])
                            | succ kj27 =>
                              have H := HA.out
                              clear HA
                              simp only [impl_CompareVersions.j5] at H
                              have HC30 := Aside0.mk H
                              clear H
                              go_upto_if 72 with (fail)
                              repeat (go_quiet (fail); go_upto_if 72 with (fail))
                              go_cut [12] (fun v12 wc => ∃ (kq : Nat) (x12_29 : Int), v12 = .int .i64 x12_29 ∧ Aside0 (impl_CompareVersions.j6 kq t166 t170 x9_2 x12_29 = some r) ∧ Aside0 (kq ≤ kj27) ∧ Aside0 (Kd.R k62 62 wc w.heap.size (fun k_ => some k_ ≠ ((.slice Ao20 t170.length co20) : Value).ownBlock) (.slice Ao19 t166.length co19) t166) ∧ Aside0 (Kd.R k62 62 wc w.heap.size (fun k_ => some k_ ≠ ((.slice Ao19 t166.length co19) : Value).ownBlock) (.slice Ao20 t170.length co20) t170) ∧ Aside0 (Below w.heap.size w wc))
                              case first =>
                                have H := HC30.out
                                clear HC30
                                by_cases c31 : x72_27 = true
                                · subst c31
                                  have H1 : (if 0 ≤ x9_2 then (if x9_2 < (t166.length : Int) then (if x9_2 < (t170.length : Int) then (if ((rd_T62 t166 x9_2).f0) < ((rd_T62 t170 x9_2).f0) then (impl_CompareVersions.j6 kj27 t166 t170 x9_2 (-1)) else (if ((rd_T62 t166 x9_2).f0) > ((rd_T62 t170 x9_2).f0) then (impl_CompareVersions.j6 kj27 t166 t170 x9_2 1) else (impl_CompareVersions.j6 kj27 t166 t170 x9_2 x12_21))) else (none)) else (none)) else (none)) = some r := by rw [if_pos rfl] at H; exact H
                                  clear H
                                  have H := H1
                                  clear H1
                                  by_cases c32 : 0 ≤ x9_2
                                  · rw [if_pos c32] at H
                                    have c32b0 : decide (0 ≤ x9_2) = true := decide_eq_true c32
                                    clear c32
                                    (first | rw [c32b0] | (simp only [i64_w, i32_w]; rw [c32b0]) | skip)
                                    by_cases c33 : x9_2 < (t166.length : Int)
                                    · rw [if_pos c33] at H
                                      have c33b0 : decide (x9_2 < (t166.length : Int)) = true := decide_eq_true c33
                                      clear c33
                                      by_cases c34 : x9_2 < (t170.length : Int)
                                      · rw [if_pos c34] at H
                                        have c34b0 : decide (x9_2 < (t170.length : Int)) = true := decide_eq_true c34
                                        clear c34
                                        by_cases c35 : ((rd_T62 t166 x9_2).f0) < ((rd_T62 t170 x9_2).f0)
                                        · rw [if_pos c35] at H
                                          have c35b0 : decide (((rd_T62 t166 x9_2).f0) < ((rd_T62 t170 x9_2).f0)) = true := decide_eq_true c35
                                          clear c35
                                          have H' := Aside0.mk H
                                          clear H
                                          have p179 : 0 ≤ (x9_2 : Int) := of_decide_eq_true (by first | (with_reducible assumption) | assumption)
                                          have q179 : x9_2 < (t166.length : Int) := of_decide_eq_true (by first | (with_reducible assumption) | assumption)
                                          obtain ⟨ad179, e179, hx179_0, hx179_1⟩ := at_T62 (Kd.R_reads' HO_5.out).2.2 x9_2 p179 q179
                                          cases e179
                                          replace p179 := eq_true p179
                                          replace q179 := eq_true q179
                                          have p180 : 0 ≤ (x9_2 : Int) := of_decide_eq_true (by first | (with_reducible assumption) | assumption)
                                          have q180 : x9_2 < (t170.length : Int) := of_decide_eq_true (by first | (with_reducible assumption) | assumption)
                                          obtain ⟨ad180, e180, hx180_0, hx180_1⟩ := at_T62 (Kd.R_reads' HO_7.out).2.2 x9_2 p180 q180
                                          cases e180
                                          replace p180 := eq_true p180
                                          replace q180 := eq_true q180
                                          go_wp2
                                          repeat (go_quiet (fail); try go_wp2)
                                          go_meet
                                          case rel => exact ⟨_, ((-1)), (by first | rfl | (simp; done) | (simp [*]; done)), H', ⟨by have := HJ4.out; have := HK2.out; have := HJ9.out; have := HJ17.out; have := HJ21.out; have := HJ27.out; first | omega | exact Nat.le_refl _⟩, ⟨by (with_reducible repeat (first | apply Kd.R_alloc | apply Kd.R_drewN | apply Kd.R_drew)); exact HO_5.out⟩, ⟨by (with_reducible repeat (first | apply Kd.R_alloc | apply Kd.R_drewN | apply Kd.R_drew)); exact HO_7.out⟩, ⟨by repeat (first | (with_reducible first | exact HB.out | apply below_alloc | apply pw_below_drewN | apply below_drew1) | exact HB.out)⟩⟩
                                        · rw [if_neg c35] at H
                                          have c35b0 : decide (((rd_T62 t166 x9_2).f0) < ((rd_T62 t170 x9_2).f0)) = false := decide_eq_false c35
                                          clear c35
                                          by_cases c36 : ((rd_T62 t166 x9_2).f0) > ((rd_T62 t170 x9_2).f0)
                                          · rw [if_pos c36] at H
                                            have c36b0 : decide (((rd_T62 t170 x9_2).f0) < ((rd_T62 t166 x9_2).f0)) = true := decide_eq_true c36
                                            clear c36
                                            have H' := Aside0.mk H
                                            clear H
                                            have p179 : 0 ≤ (x9_2 : Int) := of_decide_eq_true (by first | (with_reducible assumption) | assumption)
                                            have q179 : x9_2 < (t166.length : Int) := of_decide_eq_true (by first | (with_reducible assumption) | assumption)
                                            obtain ⟨ad179, e179, hx179_0, hx179_1⟩ := at_T62 (Kd.R_reads' HO_5.out).2.2 x9_2 p179 q179
                                            cases e179
                                            replace p179 := eq_true p179
                                            replace q179 := eq_true q179
                                            have p180 : 0 ≤ (x9_2 : Int) := of_decide_eq_true (by first | (with_reducible assumption) | assumption)
                                            have q180 : x9_2 < (t170.length : Int) := of_decide_eq_true (by first | (with_reducible assumption) | assumption)
                                            obtain ⟨ad180, e180, hx180_0, hx180_1⟩ := at_T62 (Kd.R_reads' HO_7.out).2.2 x9_2 p180 q180
                                            cases e180
                                            replace p180 := eq_true p180
                                            replace q180 := eq_true q180
                                            have p181 : 0 ≤ (x9_2 : Int) := of_decide_eq_true (by first | (with_reducible assumption) | assumption)
                                            have q181 : x9_2 < (t166.length : Int) := of_decide_eq_true (by first | (with_reducible assumption) | assumption)
                                            obtain ⟨ad181, e181, hx181_0, hx181_1⟩ := at_T62 (Kd.R_reads' HO_5.out).2.2 x9_2 p181 q181
                                            obtain rfl : ad179 = ad181 := (by injection e181)
                                            replace p181 := eq_true p181
                                            replace q181 := eq_true q181
                                            have p182 : 0 ≤ (x9_2 : Int) := of_decide_eq_true (by first | (with_reducible assumption) | assumption)
                                            have q182 : x9_2 < (t170.length : Int) := of_decide_eq_true (by first | (with_reducible assumption) | assumption)
                                            obtain ⟨ad182, e182, hx182_0, hx182_1⟩ := at_T62 (Kd.R_reads' HO_7.out).2.2 x9_2 p182 q182
                                            obtain rfl : ad180 = ad182 := (by injection e182)
                                            replace p182 := eq_true p182
                                            replace q182 := eq_true q182
                                            go_wp2
                                            repeat (go_quiet (fail); try go_wp2)
                                            go_meet
                                            case rel => exact ⟨_, (1), (by first | rfl | (simp; done) | (simp [*]; done)), H', ⟨by have := HJ4.out; have := HK2.out; have := HJ9.out; have := HJ17.out; have := HJ21.out; have := HJ27.out; first | omega | exact Nat.le_refl _⟩, ⟨by (with_reducible repeat (first | apply Kd.R_alloc | apply Kd.R_drewN | apply Kd.R_drew)); exact HO_5.out⟩, ⟨by (with_reducible repeat (first | apply Kd.R_alloc | apply Kd.R_drewN | apply Kd.R_drew)); exact HO_7.out⟩, ⟨by repeat (first | (with_reducible first | exact HB.out | apply below_alloc | apply pw_below_drewN | apply below_drew1) | exact HB.out)⟩⟩
                                          · rw [if_neg c36] at H
                                            have c36b0 : decide (((rd_T62 t170 x9_2).f0) < ((rd_T62 t166 x9_2).f0)) = false := decide_eq_false c36
                                            clear c36
                                            have H' := Aside0.mk H
                                            clear H
                                            have p179 : 0 ≤ (x9_2 : Int) := of_decide_eq_true (by first | (with_reducible assumption) | assumption)
                                            have q179 : x9_2 < (t166.length : Int) := of_decide_eq_true (by first | (with_reducible assumption) | assumption)
                                            obtain ⟨ad179, e179, hx179_0, hx179_1⟩ := at_T62 (Kd.R_reads' HO_5.out).2.2 x9_2 p179 q179
                                            cases e179
                                            replace p179 := eq_true p179
                                            replace q179 := eq_true q179
                                            have p180 : 0 ≤ (x9_2 : Int) := of_decide_eq_true (by first | (with_reducible assumption) | assumption)
                                            have q180 : x9_2 < (t170.length : Int) := of_decide_eq_true (by first | (with_reducible assumption) | assumption)
                                            obtain ⟨ad180, e180, hx180_0, hx180_1⟩ := at_T62 (Kd.R_reads' HO_7.out).2.2 x9_2 p180 q180
                                            cases e180
                                            replace p180 := eq_true p180
                                            replace q180 := eq_true q180
                                            have p181 : 0 ≤ (x9_2 : Int) := of_decide_eq_true (by first | (with_reducible assumption) | assumption)
                                            have q181 : x9_2 < (t166.length : Int) := of_decide_eq_true (by first | (with_reducible assumption) | assumption)
                                            obtain ⟨ad181, e181, hx181_0, hx181_1⟩ := at_T62 (Kd.R_reads' HO_5.out).2.2 x9_2 p181 q181
                                            obtain rfl : ad179 = ad181 := (by injection e181)
                                            replace p181 := eq_true p181
                                            replace q181 := eq_true q181
                                            have p182 : 0 ≤ (x9_2 : Int) := of_decide_eq_true (by first | (with_reducible assumption) | assumption)
                                            have q182 : x9_2 < (t170.length : Int) := of_decide_eq_true (by first | (with_reducible assumption) | assumption)
                                            obtain ⟨ad182, e182, hx182_0, hx182_1⟩ := at_T62 (Kd.R_reads' HO_7.out).2.2 x9_2 p182 q182
                                            obtain rfl : ad180 = ad182 := (by injection e182)
                                            replace p182 := eq_true p182
                                            replace q182 := eq_true q182
                                            go_wp2
                                            repeat (go_quiet (fail); try go_wp2)
                                            go_meet
                                            case rel => exact ⟨_, (x12_21), (by first | rfl | (simp; done) | (simp [*]; done)), H', ⟨by have := HJ4.out; have := HK2.out; have := HJ9.out; have := HJ17.out; have := HJ21.out; have := HJ27.out; first | omega | exact Nat.le_refl _⟩, ⟨by (with_reducible repeat (first | apply Kd.R_alloc | apply Kd.R_drewN | apply Kd.R_drew)); exact HO_5.out⟩, ⟨by (with_reducible repeat (first | apply Kd.R_alloc | apply Kd.R_drewN | apply Kd.R_drew)); exact HO_7.out⟩, ⟨by repeat (first | (with_reducible first | exact HB.out | apply below_alloc | apply pw_below_drewN | apply below_drew1) | exact HB.out)⟩⟩
                                      · rw [if_neg c34] at H
                                        exact absurd H (by simp)
                                    · rw [if_neg c33] at H
                                      exact absurd H (by simp)
                                  · rw [if_neg c32] at H
                                    exact absurd H (by simp)
                                · replace c31 := Bool.eq_false_iff.mpr c31
                                  subst c31
                                  have H1 : (impl_CompareVersions.j6 kj27 t166 t170 x9_2 x12_21) = some r := by rw [if_neg (show ¬ (false = true) by decide)] at H; exact H
                                  clear H
                                  have H := H1
                                  clear H1
                                  have H' := Aside0.mk H
                                  clear H
                                  go_wp2
                                  repeat (go_quiet (fail); try go_wp2)
                                  go_meet
                                  case rel => exact ⟨_, (x12_21), (by first | rfl | (simp; done) | (simp [*]; done)), H', ⟨by have := HJ4.out; have := HK2.out; have := HJ9.out; have := HJ17.out; have := HJ21.out; have := HJ27.out; first | omega | exact Nat.le_refl _⟩, ⟨by (with_reducible repeat (first | apply Kd.R_alloc | apply Kd.R_drewN | apply Kd.R_drew)); exact HO_5.out⟩, ⟨by (with_reducible repeat (first | apply Kd.R_alloc | apply Kd.R_drewN | apply Kd.R_drew)); exact HO_7.out⟩, ⟨by repeat (first | (with_reducible first | exact HB.out | apply below_alloc | apply pw_below_drewN | apply below_drew1) | exact HB.out)⟩⟩
                              case rest =>
                                clear HC30
                                try clear c1
                                try clear p1
                                try clear q1
                                try clear hx1
                                try clear c2
                                try clear p2
                                try clear c3
                                try clear p6
                                try clear c8
                                try clear c9
                                try clear c11
                                try clear c11b0
                                try clear c14
                                try clear c15
                                try clear p17
                                try clear q17
                                try clear hx17
                                try clear p18
                                try clear q18
                                try clear hx18
                                try clear c21
                                try clear c21b0
                                try clear c21b1
                                try clear c23
                                try clear c24
                                try clear c24b0
                                try clear c25
                                try clear c25b0
                                try clear c26
                                try clear c26b0
                                try clear c29
                                try clear c29b0
                                try clear c29b1
                                try clear c31
                                try clear c32
                                try clear c32b0
                                try clear c33
                                try clear c33b0
                                try clear c34
                                try clear c34b0
                                try clear c35
                                try clear c35b0
                                try clear c36
                                try clear c36b0
                                try clear hx176_0
                                try clear hx176_1
                                try clear hx177_0
                                try clear hx177_1
                                try clear hx179_0
                                try clear hx179_1
                                try clear hx180_0
                                try clear hx180_1
                                try clear hx181_0
                                try clear hx181_1
                                try clear hx182_0
                                try clear hx182_1
                                try clear p1
                                try clear p17
                                try clear p176
                                try clear p177
                                try clear p179
                                try clear p180
                                try clear p181
                                try clear p182
                                try clear p2
                                try clear p6
                                try clear q1
                                try clear q17
                                try clear q176
                                try clear q177
                                try clear q179
                                try clear q180
                                try clear q181
                                try clear q182
                                obtain ⟨kq, x12_29, rfl, HA, HJ29, HO_5, HO_7, HB⟩ := hcut
                                cases kq with
                                | zero => exact absurd HA.out (by simp [impl_CompareVersions.j6])
                                | succ kj29 =>
                                  have H := HA.out
                                  clear HA
                                  simp only [impl_CompareVersions.j6] at H
                                  by_cases c37 : x12_29 < 0
                                  · rw [if_pos c37] at H
                                    have c37b0 : decide (x12_29 < 0) = true := decide_eq_true c37
                                    clear c37
                                    obtain rfl := Option.some.inj H
                                    go_wp2
                                    repeat (go_quiet (fail); try go_wp2)
                                    go_ret
                                    exact ⟨by first | rfl | (simp [errW_none, errW_some] <;> rfl) | (simp [*, errW_none, errW_some] <;> rfl), by repeat (first | (with_reducible first | exact HB.out | apply below_alloc | apply pw_below_drewN | apply below_drew1) | exact HB.out)⟩
                                  · rw [if_neg c37] at H
                                    have c37b0 : decide (x12_29 < 0) = false := decide_eq_false c37
                                    clear c37
                                    by_cases c38 : x12_29 > 0
                                    · rw [if_pos c38] at H
                                      have c38b0 : decide (0 < x12_29) = true := decide_eq_true c38
                                      clear c38
                                      obtain rfl := Option.some.inj H
                                      go_wp2
                                      repeat (go_quiet (fail); try go_wp2)
                                      go_ret
                                      exact ⟨by first | rfl | (simp [errW_none, errW_some] <;> rfl) | (simp [*, errW_none, errW_some] <;> rfl), by repeat (first | (with_reducible first | exact HB.out | apply below_alloc | apply pw_below_drewN | apply below_drew1) | exact HB.out)⟩
                                    · rw [if_neg c38] at H
                                      have c38b0 : decide (0 < x12_29) = false := decide_eq_false c38
                                      clear c38
                                      have H' := Aside0.mk H
                                      clear H
                                      go_wp2
                                      repeat (go_quiet (fail); try go_wp2)
                                      go_roundg kj29
                                      case measure => have := HJ4.out; have := HK2.out; have := HJ9.out; have := HJ17.out; have := HJ21.out; have := HJ27.out; have := HJ29.out; omega
                                      case rel => exact ⟨(wrap64 (x9_2 + 1)), (by first | rfl | (simp; done) | (simp [*]; done)), H', ⟨by have := HJ4.out; have := HK2.out; have := HJ9.out; have := HJ17.out; have := HJ21.out; have := HJ27.out; have := HJ29.out; omega⟩, ⟨by (with_reducible repeat (first | apply Kd.R_alloc | apply Kd.R_drewN | apply Kd.R_drew)); exact HO_5.out⟩, ⟨by (with_reducible repeat (first | apply Kd.R_alloc | apply Kd.R_drewN | apply Kd.R_drew)); exact HO_7.out⟩, ⟨by repeat (first | (with_reducible first | exact HB.out | apply below_alloc | apply pw_below_drewN | apply below_drew1) | exact HB.out)⟩⟩
                · replace c15 := Bool.eq_false_iff.mpr c15
                  subst c15
                  have H1 : (some 0) = some r := by rw [if_neg (show ¬ (false = true) by decide)] at H; exact H
                  clear H
                  have H := H1
                  clear H1
                  obtain rfl := Option.some.inj H
                  go_wp2
                  repeat (go_quiet (fail); try go_wp2)
                  go_ret
                  exact ⟨by first | rfl | (simp [errW_none, errW_some] <;> rfl) | (simp [*, errW_none, errW_some] <;> rfl), by repeat (first | (with_reducible first | exact HB.out | apply below_alloc | apply pw_below_drewN | apply below_drew1) | exact HB.out)⟩

end Go.Proofs.YtklinldidfdnjaaDoor.PFnExactCompareVersions
