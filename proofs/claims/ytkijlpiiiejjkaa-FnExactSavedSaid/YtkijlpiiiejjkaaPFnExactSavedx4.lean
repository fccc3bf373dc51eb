-- Laid by a program of this session: a turned copy of the kit's print, with contracts by hand beside.
import Derived.Test.YtkijlpiiiejjkaaPFnExactSavedx0
namespace Go.Proofs.Ytkijlpiiiejjkaa.PFnExactSaved
open Go.RowKit Go.Proofs.YtkijlpiiiejjkaaW.PrintWords Go.Proofs.YtkijlpiiiejjkaaW.PrintLast Go.Proofs.YtkijlpiiiejjkaaW.PrintMore
attribute [local go_sem] max2_int min2_int max_two min_two max_three min_three max_four min_four   -- for this text's walks alone
set_option linter.unusedVariables false
set_option linter.unusedSimpArgs false

/-! ### impl_MakeDelta: function 16 -/
mutual
def impl_MakeDelta.j0 : Nat → List Int → List Int → Bool → Option ((List (S62)))
 | 0, _, _, _ => none
 | k + 1, x0, x1, x18 => if x18 = true then (some ([] : List (S62))) else (impl_MakeDelta.l0 k x0 x1 (([] : List (S62))) 0)
def impl_MakeDelta.l0 : Nat → List Int → List Int → List (S62) → Int → Option ((List (S62)))
 | 0, _, _, _, _ => none
 | k + 1, x0, x1, x5, x6 => if x6 < (x1.length : Int) then (impl_MakeDelta.l1 k x0 x1 x5 x6 0 0 (x0.length : Int) 0) else (if (x5.length : Int) > 10000 then (some ([] : List (S62))) else (some x5))
def impl_MakeDelta.l1 : Nat → List Int → List Int → List (S62) → Int → Int → Int → Int → Int → Option ((List (S62)))
 | 0, _, _, _, _, _, _, _, _ => none
 | k + 1, x0, x1, x5, x6, x7, x8, x25, x26 => if x26 < x25 then (impl_MakeDelta.l2 k x0 x1 x5 x6 x7 x8 x26 0 x25 x26) else (if x7 ≥ 6 then (if x5.length < 2932031007402 then (impl_MakeDelta.l0 k x0 x1 (x5 ++ [(⟨1, x8, x7, ([] : List Int)⟩ : S62)]) (wrap64 (x6 + x7))) else (none)) else (if (x5.length : Int) > 0 then (if 0 ≤ (wrap64 ((x5.length : Int) - 1)) then (if (wrap64 ((x5.length : Int) - 1)) < (x5.length : Int) then (if ((rd_T62 x5 (wrap64 ((x5.length : Int) - 1))).f0) = 2 then (if 0 ≤ x6 then (if x6 < (x1.length : Int) then (if ((rd_T62 x5 (wrap64 ((x5.length : Int) - 1))).f3).length < 140737488355328 then (impl_MakeDelta.l0 k x0 x1 (x5.set ((wrap64 ((x5.length : Int) - 1)) : Int).toNat (⟨(rd_T62 x5 (wrap64 ((x5.length : Int) - 1))).f0, (rd_T62 x5 (wrap64 ((x5.length : Int) - 1))).f1, (rd_T62 x5 (wrap64 ((x5.length : Int) - 1))).f2, (((rd_T62 x5 (wrap64 ((x5.length : Int) - 1))).f3) ++ [rd x1 x6])⟩ : S62)) (wrap64 (x6 + 1))) else (none)) else (none)) else (none)) else (if 0 ≤ x6 then (if x6 < (x1.length : Int) then (if x5.length < 2932031007402 then (impl_MakeDelta.l0 k x0 x1 (x5 ++ [(⟨2, 0, 0, (([rd x1 x6] : List Int))⟩ : S62)]) (wrap64 (x6 + 1))) else (none)) else (none)) else (none))) else (none)) else (none)) else (if 0 ≤ x6 then (if x6 < (x1.length : Int) then (if x5.length < 2932031007402 then (impl_MakeDelta.l0 k x0 x1 (x5 ++ [(⟨2, 0, 0, (([rd x1 x6] : List Int))⟩ : S62)]) (wrap64 (x6 + 1))) else (none)) else (none)) else (none))))
def impl_MakeDelta.l2 : Nat → List Int → List Int → List (S62) → Int → Int → Int → Int → Int → Int → Int → Option ((List (S62)))
 | 0, _, _, _, _, _, _, _, _, _, _ => none
 | k + 1, x0, x1, x5, x6, x7, x8, x9, x10, x25, x26 => if x10 < 1000 then (if (wrap64 (x9 + x10)) < (x0.length : Int) then (if (wrap64 (x6 + x10)) < (x1.length : Int) then (if 0 ≤ (wrap64 (x9 + x10)) then (if 0 ≤ (wrap64 (x6 + x10)) then (if (rd x0 (wrap64 (x9 + x10))) = (rd x1 (wrap64 (x6 + x10))) then (impl_MakeDelta.l2 k x0 x1 x5 x6 x7 x8 x9 (wrap64 (x10 + 1)) x25 x26) else (if x10 > x7 then (impl_MakeDelta.l1 k x0 x1 x5 x6 x10 x9 x25 (wrap64 (x26 + 1))) else (impl_MakeDelta.l1 k x0 x1 x5 x6 x7 x8 x25 (wrap64 (x26 + 1))))) else (none)) else (none)) else (if x10 > x7 then (impl_MakeDelta.l1 k x0 x1 x5 x6 x10 x9 x25 (wrap64 (x26 + 1))) else (impl_MakeDelta.l1 k x0 x1 x5 x6 x7 x8 x25 (wrap64 (x26 + 1))))) else (if x10 > x7 then (impl_MakeDelta.l1 k x0 x1 x5 x6 x10 x9 x25 (wrap64 (x26 + 1))) else (impl_MakeDelta.l1 k x0 x1 x5 x6 x7 x8 x25 (wrap64 (x26 + 1))))) else (if x10 > x7 then (impl_MakeDelta.l1 k x0 x1 x5 x6 x10 x9 x25 (wrap64 (x26 + 1))) else (impl_MakeDelta.l1 k x0 x1 x5 x6 x7 x8 x25 (wrap64 (x26 + 1))))
end
def impl_MakeDelta.f (k : Nat) (l0 : List Int) (l1 : List Int) : Option ((List (S62))) := if (l0.length : Int) > 3000 then (impl_MakeDelta.j0 k l0 l1 true) else (impl_MakeDelta.j0 k l0 l1 (decide ((l1.length : Int) > 3000)))
theorem impl_MakeDelta.mono_l : ∀ k, (∀ y0 y1 y2, LeO (impl_MakeDelta.j0 k y0 y1 y2) (impl_MakeDelta.j0 (k + 1) y0 y1 y2)) ∧ (∀ y0 y1 y2 y3, LeO (impl_MakeDelta.l0 k y0 y1 y2 y3) (impl_MakeDelta.l0 (k + 1) y0 y1 y2 y3)) ∧ (∀ y0 y1 y2 y3 y4 y5 y6 y7, LeO (impl_MakeDelta.l1 k y0 y1 y2 y3 y4 y5 y6 y7) (impl_MakeDelta.l1 (k + 1) y0 y1 y2 y3 y4 y5 y6 y7)) ∧ (∀ y0 y1 y2 y3 y4 y5 y6 y7 y8 y9, LeO (impl_MakeDelta.l2 k y0 y1 y2 y3 y4 y5 y6 y7 y8 y9) (impl_MakeDelta.l2 (k + 1) y0 y1 y2 y3 y4 y5 y6 y7 y8 y9))
 | 0 => ⟨fun _ _ _ r h => by simp [impl_MakeDelta.j0] at h, fun _ _ _ _ r h => by simp [impl_MakeDelta.l0] at h, fun _ _ _ _ _ _ _ _ r h => by simp [impl_MakeDelta.l1] at h, fun _ _ _ _ _ _ _ _ _ _ r h => by simp [impl_MakeDelta.l2] at h⟩
 | k + 1 => by
  obtain ⟨ih0, ih1, ih2, ih3⟩ := impl_MakeDelta.mono_l k
  refine ⟨?_, ?_, ?_, ?_⟩
  ·intro y0 y1 y2
   unfold impl_MakeDelta.j0
   repeat' first
   | (with_reducible exact ih0 _ _ _)
   | (with_reducible exact ih1 _ _ _ _)
   | (with_reducible exact ih2 _ _ _ _ _ _ _ _)
   | (with_reducible exact ih3 _ _ _ _ _ _ _ _ _ _)
   | (with_reducible exact LeO.refl _)
   | (with_reducible exact LeO.none _)
   | (with_reducible refine LeO.ite ?_ ?_)
   | (with_reducible refine LeO.bind ?_ (fun _ => ?_))
   | exact ih0 _ _ _
   | exact ih1 _ _ _ _
   | exact ih2 _ _ _ _ _ _ _ _
   | exact ih3 _ _ _ _ _ _ _ _ _ _
   | exact LeO.none _
   | refine LeO.ite ?_ ?_
   | refine LeO.bind ?_ (fun _ => ?_)
  ·intro y0 y1 y2 y3
   unfold impl_MakeDelta.l0
   repeat' first
   | (with_reducible exact ih0 _ _ _)
   | (with_reducible exact ih1 _ _ _ _)
   | (with_reducible exact ih2 _ _ _ _ _ _ _ _)
   | (with_reducible exact ih3 _ _ _ _ _ _ _ _ _ _)
   | (with_reducible exact LeO.refl _)
   | (with_reducible exact LeO.none _)
   | (with_reducible refine LeO.ite ?_ ?_)
   | (with_reducible refine LeO.bind ?_ (fun _ => ?_))
   | exact ih0 _ _ _
   | exact ih1 _ _ _ _
   | exact ih2 _ _ _ _ _ _ _ _
   | exact ih3 _ _ _ _ _ _ _ _ _ _
   | exact LeO.none _
   | refine LeO.ite ?_ ?_
   | refine LeO.bind ?_ (fun _ => ?_)
  ·intro y0 y1 y2 y3 y4 y5 y6 y7
   unfold impl_MakeDelta.l1
   repeat' first
   | (with_reducible exact ih0 _ _ _)
   | (with_reducible exact ih1 _ _ _ _)
   | (with_reducible exact ih2 _ _ _ _ _ _ _ _)
   | (with_reducible exact ih3 _ _ _ _ _ _ _ _ _ _)
   | (with_reducible exact LeO.refl _)
   | (with_reducible exact LeO.none _)
   | (with_reducible refine LeO.ite ?_ ?_)
   | (with_reducible refine LeO.bind ?_ (fun _ => ?_))
   | exact ih0 _ _ _
   | exact ih1 _ _ _ _
   | exact ih2 _ _ _ _ _ _ _ _
   | exact ih3 _ _ _ _ _ _ _ _ _ _
   | exact LeO.none _
   | refine LeO.ite ?_ ?_
   | refine LeO.bind ?_ (fun _ => ?_)
  ·intro y0 y1 y2 y3 y4 y5 y6 y7 y8 y9
   unfold impl_MakeDelta.l2
   repeat' first
   | (with_reducible exact ih0 _ _ _)
   | (with_reducible exact ih1 _ _ _ _)
   | (with_reducible exact ih2 _ _ _ _ _ _ _ _)
   | (with_reducible exact ih3 _ _ _ _ _ _ _ _ _ _)
   | (with_reducible exact LeO.refl _)
   | (with_reducible exact LeO.none _)
   | (with_reducible refine LeO.ite ?_ ?_)
   | (with_reducible refine LeO.bind ?_ (fun _ => ?_))
   | exact ih0 _ _ _
   | exact ih1 _ _ _ _
   | exact ih2 _ _ _ _ _ _ _ _
   | exact ih3 _ _ _ _ _ _ _ _ _ _
   | exact LeO.none _
   | refine LeO.ite ?_ ?_
   | refine LeO.bind ?_ (fun _ => ?_)
theorem impl_MakeDelta.mono : ∀ a0 a1 k, LeO (impl_MakeDelta.f k a0 a1) (impl_MakeDelta.f (k + 1) a0 a1) := by
 intro a0 a1 k
 obtain ⟨ih0, ih1, ih2, ih3⟩ := impl_MakeDelta.mono_l k
 unfold impl_MakeDelta.f
 repeat' first
   | (with_reducible exact ih0 _ _ _)
   | (with_reducible exact ih1 _ _ _ _)
   | (with_reducible exact ih2 _ _ _ _ _ _ _ _)
   | (with_reducible exact ih3 _ _ _ _ _ _ _ _ _ _)
   | (with_reducible exact LeO.refl _)
   | (with_reducible exact LeO.none _)
   | (with_reducible refine LeO.ite ?_ ?_)
   | (with_reducible refine LeO.bind ?_ (fun _ => ?_))
   | exact ih0 _ _ _
   | exact ih1 _ _ _ _
   | exact ih2 _ _ _ _ _ _ _ _
   | exact ih3 _ _ _ _ _ _ _ _ _ _
   | exact LeO.none _
   | refine LeO.ite ?_ ?_
   | refine LeO.bind ?_ (fun _ => ?_)
def impl_MakeDelta.T11 : Bool × List (List Nat × List Nat) := (true, [([], []), ([0], [0]), ([1], [1]), ([2], [2]), ([2], [2]), ([3, 4, 2], [2, 3, 4]), ([2], [2]), ([6, 2], [2, 6]), ([5, 7, 2], [2, 5, 7]), ([2, 8], [2, 8]), ([9, 2], [9]), ([10], [10]), ([10], [10]), ([11, 12, 10], [10, 11, 12]), ([10], [10]), ([14, 10], [10, 14]), ([13, 15, 10], [10, 13, 15]), ([10, 16], [10, 16]), ([17, 10], [17]), ([18], [18]), ([18], [18]), ([18], [18]), ([20, 21, 18], [18, 20, 21]), ([19, 22, 18], [18, 19, 22]), ([23, 18], [18, 23]), ([18], [18]), ([18], [18]), ([18], [18]), ([26, 27, 18], [18, 26, 27]), ([25, 28, 18], [18, 25, 28]), ([29, 18], [18, 29]), ([24, 30, 18], [18, 24, 30]), ([18, 31], [18, 31])])
def impl_MakeDelta.B11 : List Nat := [0, 1, 3, 7, 7, 31, 7, 71, 255, 511, 1023, 2047, 2047, 8191, 2047, 18431, 65535, 131071, 262143, 524287, 524287, 524287, 3670015, 8388607, 16777215, 524287, 524287, 524287, 201850879, 503840767, 1040711679, 2147483647, 4294967295]
theorem impl_MakeDelta.tab11 : rtab .any (opsOf Try.f16 11) = impl_MakeDelta.T11 := by kernel_rfl
theorem impl_MakeDelta.bits11 : waitsOk impl_MakeDelta.T11.2 impl_MakeDelta.B11 = true := by kernel_rfl
def impl_MakeDelta.T20 : Bool × List (List Nat × List Nat) := (true, [([], []), ([], []), ([1], [1]), ([2], [2]), ([], []), ([], []), ([5], [5]), ([6], [6]), ([4, 7], [4, 7]), ([8], [8]), ([9], [9]), ([], []), ([], []), ([11, 12], [11, 12]), ([13], [13]), ([14], [14]), ([10, 15], [10, 15]), ([0, 3, 0, 1, 2, 3, 4, 5, 6, 7, 8, 9, 10, 11, 12, 13, 14, 15, 16], [0, 3]), ([17, 0, 1, 2, 3, 4, 5, 6, 7, 8, 9, 10, 11, 12, 13, 14, 15, 16], [17]), ([18, 16, 16, 0, 1, 2, 3, 4, 5, 6, 7, 8, 9, 10, 11, 12, 13, 14, 15, 16], [16, 18])])
def impl_MakeDelta.B20 : List Nat := [0, 0, 2, 6, 0, 0, 32, 96, 240, 496, 1008, 0, 0, 6144, 14336, 30720, 65520, 131071, 262143, 524287]
theorem impl_MakeDelta.tab20 : rtab .any (opsOf Try.f16 20) = impl_MakeDelta.T20 := by kernel_rfl
theorem impl_MakeDelta.bits20 : waitsOk impl_MakeDelta.T20.2 impl_MakeDelta.B20 = true := by kernel_rfl
set_option maxHeartbeats 8000000 in
set_option maxRecDepth 100000 in
theorem impl_MakeDelta.calls (k : Nat) (A0 : Option Addr) (c0 : Nat) (l0 : List Int) (A1 : Option Addr) (c1 : Nat) (l1 : List Int) (r : List (S62)) (w : World) (hr0 : Kd.C (Kd.int .u8) w A0 l0.length l0) (hc0 : l0.length ≤ c0) (hr1 : Kd.C (Kd.int .u8) w A1 l1.length l1) (hc1 : l1.length ≤ c1) (h : impl_MakeDelta.f k l0 l1 = some r) :
  Calls Try.prog 16 #[.slice A0 l0.length c0, .slice A1 l1.length c1] w fun e w' => ∃ v0_ : Value, e = .returned (v0_) ∧ Kd.S k62 62 w' w.heap.size (fun _ => True) v0_ r ∧ Below w.heap.size w w' := by
 have hu62 := Try.underlying62
 have HR0 := Aside0.mk hr0
 have HC0 := Aside0.mk hc0
 clear hr0 hc0
 have HR1 := Aside0.mk hr1
 have HC1 := Aside0.mk hc1
 clear hr1 hc1
 have HB := Aside0.mk (Below.refl w.heap.size w)
 have H : (if (l0.length : Int) > 3000 then (impl_MakeDelta.j0 k l0 l1 true) else (impl_MakeDelta.j0 k l0 l1 (decide ((l1.length : Int) > 3000)))) = some r := h
 clear h
 have HC3 := Aside0.mk H
 clear H
 go_enter Try.func16, Try.ntmps16
 go_upto_region 1 with (fail)
 go_cut [18] (fun v18 wc => ∃ (kq : Nat) (x18_2 : Bool), v18 = .bool x18_2 ∧ Aside0 (impl_MakeDelta.j0 kq l0 l1 x18_2 = some r) ∧ Aside0 (kq ≤ k) ∧ Aside0 (Below w.heap.size w wc))
 case first =>
  have H := HC3.out
  clear HC3
  by_cases c4 : (l0.length : Int) > 3000
  ·rw [if_pos c4] at H
   have c4b0 : decide (3000 < (l0.length : Int)) = true := decide_eq_true c4
   have c4b1 : decide (3000 < l0.length) = true := decide_eq_true (by omega)
   clear c4
   (first | rw [c4b0] | (simp only [i64_w, i32_w]; rw [c4b0]) | skip)
   have H' := Aside0.mk H
   clear H
   go_wp2
   go_meet
   case rel => exact ⟨_, (true), (by first | rfl | (simp; done) | (simp [*]; done)), H', ⟨by first | omega | exact Nat.le_refl _⟩, ⟨by repeat (first | (with_reducible first | exact HB.out | apply below_alloc | apply pw_below_drewN | apply below_drew1) | exact HB.out)⟩⟩
  ·rw [if_neg c4] at H
   have c4b0 : decide (3000 < (l0.length : Int)) = false := decide_eq_false c4
   have c4b1 : decide (3000 < l0.length) = false := decide_eq_false (by omega)
   clear c4
   (first | rw [c4b0] | (simp only [i64_w, i32_w]; rw [c4b0]) | skip)
   have H' := Aside0.mk H
   clear H
   go_wp2
   go_meet
   case rel => exact ⟨_, (decide ((l1.length : Int) > 3000)), (by first | rfl | (simp; done) | (simp [*]; done)), H', ⟨by first | omega | exact Nat.le_refl _⟩, ⟨by repeat (first | (with_reducible first | exact HB.out | apply below_alloc | apply pw_below_drewN | apply below_drew1) | exact HB.out)⟩⟩
 case rest =>
  clear HC3
  try clear c1
  try clear p2
  try clear c4
  try clear c4b0
  try clear c4b1
  obtain ⟨kq, x18_2, rfl, HA, HJ2, HB⟩ := hcut
  cases kq with
  | zero => exact absurd HA.out (by simp [impl_MakeDelta.j0])
  | succ kj2 =>
   have H := HA.out
   clear HA
   simp only [impl_MakeDelta.j0] at H
   by_cases c5 : x18_2 = true
   ·subst c5
    have H1 : (some ([] : List (S62))) = some r := by rw [if_pos rfl] at H; exact H
    clear H
    have H := H1
    clear H1
    obtain rfl := Option.some.inj H
    go_wp2
    go_ret
    exact ⟨_, by first | rfl | (simp [errW_none, errW_some] <;> rfl) | (simp [*, errW_none, errW_some] <;> rfl), by first | exact Kd.S_nil _ _ _ _ _ | exact Kd.N_nil _ _ _ _ _ | exact Kd.V_nil _ _ _ _ _ | exact Kd.Q_nil _ _ _ _ _ | exact Kd.R_nil _ _ _ _ _, by repeat (first | (with_reducible first | exact HB.out | apply below_alloc | apply pw_below_drewN | apply below_drew1) | exact HB.out)⟩
   ·replace c5 := Bool.eq_false_iff.mpr c5
    subst c5
    have H1 : (impl_MakeDelta.l0 kj2 l0 l1 (([] : List (S62))) 0) = some r := by rw [if_neg (show ¬ (false = true) by decide)] at H; exact H
    clear H
    have H := H1
    clear H1
    obtain ⟨y189, hy189⟩ : ∃ y_ : List (S62), y_ = (([] : List (S62))) := ⟨_, rfl⟩
    replace H : (impl_MakeDelta.l0 kj2 l0 l1 y189 0) = some r := by first | (rw [hy189]; with_reducible exact H) | (have H2_ := (Option.bind_some _ _).symm.trans H; rw [hy189]; with_reducible exact H2_) | (have H2_ := (Option.bind_some _ _).symm.trans H; with_reducible exact H2_) | with_reducible exact H | (rw [hy189]; exact H) | exact H
    have Ny189 := Aside0.mk hy189
    clear hy189
    have H' := Aside0.mk H
    clear H
    go_wp2_with (first | ((with_reducible refine gate_dst (N := 19) rfl ?_); (try (refine gate_guard (by rfl) ?_; dsimp only)); refine Kd.S_lit k62 _ 62 ?hg (N := 19) ?hd (xs := ([] : List (S62))) (inner := []) (ok := fun _ => True) (okp := fun _ => True) ?hr ?hp (fun _ hk => hk) trivial (Below.refl _ _) (Nat.le_refl _) (by simp) ?_; (case hd => rfl); (case hg => rfl); (case hr => first | (go_simp; done) | (go_simp; rfl)); (case hp => exact (Reps.none _ _)); intro v190 w6 ho7 hb hg_ hnew_; clear hg_ hnew_; (first | rw [← Ny189.out] at ho7 | (simp only [Int.reduceToNat] at ho7; rw [← Ny189.out] at ho7)); have n0_ := Aside0.mk (Kd.S_lower ho7 (below_size (by repeat (first | (with_reducible first | exact HB.out | apply below_alloc | apply pw_below_drewN | apply below_drew1) | exact HB.out)))); have n1_ := Aside0.mk (below_step (by repeat (first | (with_reducible first | exact HB.out | apply below_alloc | apply pw_below_drewN | apply below_drew1) | exact HB.out)) hb); clear HB; have HO191 := n0_; have HB := n1_; clear n0_ n1_; clear hb ho7))
    go_loopg [5, 6] kj2 (fun kq v5 v6 w' => ∃ (x5_2 : List (S62)) (x6_2 : Int), v6 = .int .i64 x6_2 ∧ Aside0 (impl_MakeDelta.l0 kq l0 l1 x5_2 x6_2 = some r) ∧ Aside0 (kq ≤ kj2) ∧ Aside0 (Kd.S k62 62 w' w.heap.size (fun _ => True) v5 x5_2) ∧ Aside0 (Below w.heap.size w w'))
    case atStart => exact ⟨(y189), (0), (by first | rfl | (simp; done) | (simp [*]; done)), H', ⟨Nat.le_refl _⟩, ⟨by (with_reducible repeat (first | apply Kd.S_alloc | apply Kd.S_drewN | apply Kd.S_drew)); exact HO191.out⟩, ⟨by repeat (first | (with_reducible first | exact HB.out | apply below_alloc | apply pw_below_drewN | apply below_drew1) | exact HB.out)⟩⟩
    case round =>
     clear H'
     try clear c1
     try clear p2
     try clear c4
     try clear c4b0
     try clear c4b1
     try clear c5
     try clear p2
     obtain ⟨x5_2, x6_2, rfl, HA, HK2, HO_5, HB⟩ := hrel
     cases gk with
     | zero => exact absurd HA.out (by simp [impl_MakeDelta.l0])
     | succ k2 =>
      have H := HA.out
      clear HA
      simp only [impl_MakeDelta.l0] at H
      by_cases c8 : x6_2 < (l1.length : Int)
      ·rw [if_pos c8] at H
       have c8b0 : decide (x6_2 < (l1.length : Int)) = true := decide_eq_true c8
       clear c8
       have H' := Aside0.mk H
       clear H
       go_wp2
       go_loopg [7, 8, 26] k2 (fun kq v7 v8 v26 w' => ∃ (x7_3 : Int) (x8_3 : Int) (x26_3 : Int), v7 = .int .i64 x7_3 ∧ v8 = .int .i64 x8_3 ∧ v26 = .int .i64 x26_3 ∧ Aside0 (impl_MakeDelta.l1 kq l0 l1 x5_2 x6_2 x7_3 x8_3 (l0.length : Int) x26_3 = some r) ∧ Aside0 (kq ≤ k2) ∧ Aside0 (Kd.S k62 62 w' w.heap.size (fun _ => True) u5 x5_2) ∧ Aside0 (Below w.heap.size w w'))
       case atStart => exact ⟨(0), (0), (0), (by first | rfl | (simp; done) | (simp [*]; done)), (by first | rfl | (simp; done) | (simp [*]; done)), (by first | rfl | (simp; done) | (simp [*]; done)), H', ⟨Nat.le_refl _⟩, ⟨by (with_reducible repeat (first | apply Kd.S_alloc | apply Kd.S_drewN | apply Kd.S_drew)); exact HO_5.out⟩, ⟨by repeat (first | (with_reducible first | exact HB.out | apply below_alloc | apply pw_below_drewN | apply below_drew1) | exact HB.out)⟩⟩
       case round =>
        clear H'
        try clear c1
        try clear p2
        try clear c4
        try clear c4b0
        try clear c4b1
        try clear c5
        try clear c8
        try clear c8b0
        try clear p2
        obtain ⟨x7_3, x8_3, x26_3, rfl, rfl, rfl, HA, HK3, HO_5, HB⟩ := hrel
        cases gk with
        | zero => exact absurd HA.out (by simp [impl_MakeDelta.l1])
        | succ k3 =>
         have H := HA.out
         clear HA
         simp only [impl_MakeDelta.l1] at H
         by_cases c9 : x26_3 < (l0.length : Int)
         ·rw [if_pos c9] at H
          have c9b0 : decide (x26_3 < (l0.length : Int)) = true := decide_eq_true c9
          clear c9
          have H' := Aside0.mk H
          clear H
          go_wp2
          go_loopg [10] k3 (fun kq v10 w' => ∃ (x10_4 : Int), v10 = .int .i64 x10_4 ∧ Aside0 (impl_MakeDelta.l2 kq l0 l1 x5_2 x6_2 x7_3 x8_3 x26_3 x10_4 (l0.length : Int) x26_3 = some r) ∧ Aside0 (kq ≤ k3) ∧ Aside0 (Kd.S k62 62 w' w.heap.size (fun _ => True) u5 x5_2) ∧ Aside0 (Below w.heap.size w w'))
          case atStart => exact ⟨(0), (by first | rfl | (simp; done) | (simp [*]; done)), H', ⟨Nat.le_refl _⟩, ⟨by (with_reducible repeat (first | apply Kd.S_alloc | apply Kd.S_drewN | apply Kd.S_drew)); exact HO_5.out⟩, ⟨by repeat (first | (with_reducible first | exact HB.out | apply below_alloc | apply pw_below_drewN | apply below_drew1) | exact HB.out)⟩⟩
          case round =>
           clear H'
           try clear c1
           try clear p2
           try clear c4
           try clear c4b0
           try clear c4b1
           try clear c5
           try clear c8
           try clear c8b0
           try clear c9
           try clear c9b0
           try clear p2
           obtain ⟨x10_4, rfl, HA, HK4, HO_5, HB⟩ := hrel
           cases gk with
           | zero => exact absurd HA.out (by simp [impl_MakeDelta.l2])
           | succ k4 =>
            have H := HA.out
            clear HA
            simp only [impl_MakeDelta.l2] at H
            by_cases c10 : x10_4 < 1000
            ·rw [if_pos c10] at H
             have c10b0 : decide (x10_4 < 1000) = true := decide_eq_true c10
             clear c10
             by_cases c11 : (wrap64 (x26_3 + x10_4)) < (l0.length : Int)
             ·rw [if_pos c11] at H
              have c11b0 : decide ((wrap64 (x26_3 + x10_4)) < (l0.length : Int)) = true := decide_eq_true c11
              clear c11
              by_cases c12 : (wrap64 (x6_2 + x10_4)) < (l1.length : Int)
              ·rw [if_pos c12] at H
               have c12b0 : decide ((wrap64 (x6_2 + x10_4)) < (l1.length : Int)) = true := decide_eq_true c12
               clear c12
               obtain ⟨ji13, hji13⟩ : ∃ j_ : Int, (wrap64 (x26_3 + x10_4)) = j_ := ⟨_, rfl⟩
               replace H : (if 0 ≤ (ji13) then (if 0 ≤ (wrap64 (x6_2 + x10_4)) then (if (rd l0 (ji13)) = (rd l1 (wrap64 (x6_2 + x10_4))) then (impl_MakeDelta.l2 k4 l0 l1 x5_2 x6_2 x7_3 x8_3 x26_3 (wrap64 (x10_4 + 1)) (l0.length : Int) x26_3) else (if x10_4 > x7_3 then (impl_MakeDelta.l1 k4 l0 l1 x5_2 x6_2 x10_4 x26_3 (l0.length : Int) (wrap64 (x26_3 + 1))) else (impl_MakeDelta.l1 k4 l0 l1 x5_2 x6_2 x7_3 x8_3 (l0.length : Int) (wrap64 (x26_3 + 1))))) else (none)) else (none)) = some r := by first | (rw [hji13] at H; exact H) | (simp only [hji13] at H ⊢; exact H)
               (try rw [hji13] at c11b0)
               have hji13w : (IntKind.i64.wrap (x26_3 + x10_4)) = ji13 := (i64_w _).trans hji13
               by_cases c14 : 0 ≤ (ji13)
               ·rw [if_pos c14] at H
                have c14b0 : decide (0 ≤ (ji13)) = true := decide_eq_true c14
                clear c14
                obtain ⟨ji15, hji15⟩ : ∃ j_ : Int, (wrap64 (x6_2 + x10_4)) = j_ := ⟨_, rfl⟩
                replace H : (if 0 ≤ (ji15) then (if (rd l0 (ji13)) = (rd l1 (ji15)) then (impl_MakeDelta.l2 k4 l0 l1 x5_2 x6_2 x7_3 x8_3 x26_3 (wrap64 (x10_4 + 1)) (l0.length : Int) x26_3) else (if x10_4 > x7_3 then (impl_MakeDelta.l1 k4 l0 l1 x5_2 x6_2 x10_4 x26_3 (l0.length : Int) (wrap64 (x26_3 + 1))) else (impl_MakeDelta.l1 k4 l0 l1 x5_2 x6_2 x7_3 x8_3 (l0.length : Int) (wrap64 (x26_3 + 1))))) else (none)) = some r := by first | (rw [hji15] at H; exact H) | (simp only [hji15] at H ⊢; exact H)
                (try rw [hji15] at c12b0)
                have hji15w : (IntKind.i64.wrap (x6_2 + x10_4)) = ji15 := (i64_w _).trans hji15
                by_cases c16 : 0 ≤ (ji15)
                ·rw [if_pos c16] at H
                 have c16b0 : decide (0 ≤ (ji15)) = true := decide_eq_true c16
                 clear c16
                 by_cases c17 : (rd l0 (ji13)) = (rd l1 (ji15))
                 ·rw [if_pos c17] at H
                  have c17b0 : ((rd l0 (ji13)) == (rd l1 (ji15))) = true := beq_iff_eq.mpr c17
                  have c17b1 : ((rd l0 (ji13)) != (rd l1 (ji15))) = false := bne_eq_false_iff_eq.mpr c17
                  clear c17
                  have H' := Aside0.mk H
                  clear H
                  try go_wp2
                  have n0_ := Aside0.mk (Kd.S_drew HO_5.out)
                  have n1_ := Aside0.mk (below_drew1 HB.out)
                  clear HO_5
                  clear HB
                  have HO_5 := n0_
                  have HB := n1_
                  clear n0_ n1_
                  have p192 : 0 ≤ ((ji13) : Int) := of_decide_eq_true (by first | (with_reducible assumption) | assumption)
                  have q192 : (ji13) < (l0.length : Int) := of_decide_eq_true (by first | (with_reducible assumption) | assumption)
                  obtain ⟨ad192, e192, hx192_0⟩ := Kd.at_int HR0.out (ji13) p192 q192
                  have hw192_0 := hx192_0
                  cases e192
                  try (replace hx192_0 := (HB.out.cell (World.block_lt_of_cell? w _ hx192_0)).trans hx192_0)
                  replace p192 := eq_true p192
                  replace q192 := eq_true q192
                  have p193 : 0 ≤ ((ji15) : Int) := of_decide_eq_true (by first | (with_reducible assumption) | assumption)
                  have q193 : (ji15) < (l1.length : Int) := of_decide_eq_true (by first | (with_reducible assumption) | assumption)
                  obtain ⟨ad193, e193, hx193_0⟩ := Kd.at_int HR1.out (ji15) p193 q193
                  have hw193_0 := hx193_0
                  cases e193
                  try (replace hx193_0 := (HB.out.cell (World.block_lt_of_cell? w _ hx193_0)).trans hx193_0)
                  replace p193 := eq_true p193
                  replace q193 := eq_true q193
                  refine start_ (n := 33) (S := fun w' => w'.cell? (ad192.add ((ji13)).toNat) = some (.int .u8 (rd l0 (ji13))) ∧ w'.cell? (ad193.add ((ji15)).toNat) = some (.int .u8 (rd l1 (ji15)))) (ds := []) (tf 33 0) (by kernel_rfl) rfl rfl ⟨((HB.out.cell (World.block_lt_of_cell? w _ hw192_0)).trans hw192_0), ((HB.out.cell (World.block_lt_of_cell? w _ hw193_0)).trans hw193_0)⟩ (fun hHeld => ?_); refine with_tabW impl_MakeDelta.tab11 impl_MakeDelta.bits11 (fun HT_ HW_ => ?_)
                  generalize wr.drew = w18 at HO_5 HB hx192_0 hx193_0 hHeld ⊢
                  refine pA_ 0 29 ?_ (tf 33 1) rfl rfl (any_of HT_.out (by kernel_rfl)) (fun _ _ _ h => h) (by rfl) ?_ ?_ ?_ ?_
                  (rotate_left; · intro w'; go_simp; with_reducible rfl)
                  (rotate_left; · simp only [Act.put, sT, s0, sS, i64_w, i32_w]; rfl)
                  refine pA_ 1 30 ?_ (tf 33 3) rfl rfl (any_of HT_.out (by kernel_rfl)) (fun _ _ _ h => h) (by rfl) ?_ ?_ ?_ ?_
                  (rotate_left; · intro w'; go_simp; with_reducible rfl)
                  (rotate_left; · simp only [Act.put, sT, s0, sS, i64_w, i32_w]; rfl)
                  refine pA_ 2 31 ?_ (tf 33 7) rfl rfl (any_of HT_.out (by kernel_rfl)) (fun _ _ _ h => h) (by rfl) ?_ ?_ ?_ ?_
                  (rotate_left; · intro w'; go_simp; with_reducible rfl)
                  (rotate_left; · simp only [Act.put, sT, s0, sS, i64_w, i32_w]; rfl)
                  refine pA_ 3 32 ?_ (tf 33 15) rfl rfl (any_of HT_.out (by kernel_rfl)) (fun _ _ _ h => h) (by rfl) ?_ ?_ ?_ ?_
                  (rotate_left; · intro w'; go_simp; with_reducible rfl)
                  (rotate_left; · simp only [Act.put, sT, s0, sS, i64_w, i32_w]; rfl)
                  refine pA_ 4 33 ?_ (tf 33 31) rfl rfl (any_of HT_.out (by kernel_rfl)) (fun _ _ _ h => h) (by rfl) ?_ ?_ ?_ ?_
                  (rotate_left; · intro w'; go_simp; with_reducible rfl)
                  (rotate_left; · simp only [Act.put, sT, s0, sS, i64_w, i32_w]; rfl)
                  refine pA_ 5 34 ?_ (tf 33 63) rfl rfl (any_of HT_.out (by kernel_rfl)) (fun _ _ _ h => h) (by rfl) ?_ ?_ ?_ ?_
                  (rotate_left; · intro w'; go_simp; with_reducible rfl)
                  (rotate_left; · simp only [Act.put, sT, s0, sS, i64_w, i32_w]; rfl)
                  refine pA_ 6 35 ?_ (tf 33 127) rfl rfl (any_of HT_.out (by kernel_rfl)) (fun _ _ _ h => h) (by rfl) ?_ ?_ ?_ ?_
                  (rotate_left; · intro w'; go_simp; with_reducible rfl)
                  (rotate_left; · simp only [Act.put, sT, s0, sS, i64_w, i32_w]; rfl)
                  refine pA_ 7 36 ?_ (tf 33 255) rfl rfl (any_of HT_.out (by kernel_rfl)) (fun _ _ _ h => h) (by rfl) ?_ ?_ ?_ ?_
                  (rotate_left; · intro w'; go_simp; with_reducible rfl)
                  (rotate_left; · simp only [Act.put, sT, s0, sS, i64_w, i32_w]; rfl)
                  refine pA_ 8 37 ?_ (tf 33 511) rfl rfl (any_of HT_.out (by kernel_rfl)) (fun _ _ _ h => h) (by rfl) ?_ ?_ ?_ ?_
                  (rotate_left; · intro w'; go_simp; with_reducible rfl)
                  (rotate_left; · simp only [Act.put, sT, s0, sS, i64_w, i32_w]; rfl)
                  refine pA_ 9 38 ?_ (tf 33 1023) rfl rfl (any_of HT_.out (by kernel_rfl)) (fun _ _ _ h => h) (by rfl) ?_ ?_ ?_ ?_
                  (rotate_left; · intro w'; go_simp; with_reducible rfl)
                  (rotate_left; · simp only [Act.put, sT, s0, sS, i64_w, i32_w]; rfl)
                  refine pA_ 10 39 ?_ (tf 33 2047) rfl rfl (any_of HT_.out (by kernel_rfl)) (fun _ _ _ h => h) (by rfl) ?_ ?_ ?_ ?_
                  (rotate_left; · intro w'; go_simp; with_reducible rfl)
                  (rotate_left; · simp only [Act.put, sT, s0, sS, i64_w, i32_w]; rfl)
                  refine pA_ 11 40 ?_ (tf 33 4095) rfl rfl (any_of HT_.out (by kernel_rfl)) (fun _ _ _ h => h) (by rfl) ?_ ?_ ?_ ?_
                  (rotate_left; · intro w'; go_simp; with_reducible rfl)
                  (rotate_left; · simp only [Act.put, sT, s0, sS, i64_w, i32_w]; rfl)
                  refine pA_ 12 41 ?_ (tf 33 8191) rfl rfl (any_of HT_.out (by kernel_rfl)) (fun _ _ _ h => h) (by rfl) ?_ ?_ ?_ ?_
                  (rotate_left; · intro w'; go_simp; with_reducible rfl)
                  (rotate_left; · simp only [Act.put, sT, s0, sS, i64_w, i32_w]; rfl)
                  refine pA_ 13 42 ?_ (tf 33 16383) rfl rfl (any_of HT_.out (by kernel_rfl)) (fun _ _ _ h => h) (by rfl) ?_ ?_ ?_ ?_
                  (rotate_left; · intro w'; go_simp; with_reducible rfl)
                  (rotate_left; · simp only [Act.put, sT, s0, sS, i64_w, i32_w]; rfl)
                  refine pA_ 14 43 ?_ (tf 33 32767) rfl rfl (any_of HT_.out (by kernel_rfl)) (fun _ _ _ h => h) (by rfl) ?_ ?_ ?_ ?_
                  (rotate_left; · intro w'; go_simp; with_reducible rfl)
                  (rotate_left; · simp only [Act.put, sT, s0, sS, i64_w, i32_w]; rfl)
                  refine pA_ 15 44 ?_ (tf 33 65535) rfl rfl (any_of HT_.out (by kernel_rfl)) (fun _ _ _ h => h) (by rfl) ?_ ?_ ?_ ?_
                  (rotate_left; · intro w'; go_simp; with_reducible rfl)
                  (rotate_left; · simp only [Act.put, sT, s0, sS, i64_w, i32_w]; rfl)
                  refine pA_ 16 45 ?_ (tf 33 131071) rfl rfl (any_of HT_.out (by kernel_rfl)) (fun _ _ _ h => h) (by rfl) ?_ ?_ ?_ ?_
                  (rotate_left; · intro w'; go_simp; with_reducible rfl)
                  (rotate_left; · simp only [Act.put, sT, s0, sS, i64_w, i32_w]; rfl)
                  refine pA_ 17 46 ?_ (tf 33 262143) rfl rfl (any_of HT_.out (by kernel_rfl)) (fun _ _ _ h => h) (by rfl) ?_ ?_ ?_ ?_
                  (rotate_left; · intro w'; go_simp; with_reducible rfl)
                  (rotate_left; · simp only [Act.put, sT, s0, sS, i64_w, i32_w]; rfl)
                  refine pA_ 18 47 ?_ (tf 33 524287) rfl rfl (any_of HT_.out (by kernel_rfl)) (fun _ _ _ h => h) (by rfl) ?_ ?_ ?_ ?_
                  (rotate_left; · intro w'; go_simp; with_reducible rfl)
                  (rotate_left; · simp only [Act.put, sT, s0, sS, i64_w, i32_w]; rfl)
                  refine pA_ 19 48 ?_ (tf 33 1048575) rfl rfl (any_of HT_.out (by kernel_rfl)) (fun _ _ _ h => h) (by rfl) ?_ ?_ ?_ ?_
                  (rotate_left; · intro w'; go_simp; with_reducible rfl)
                  (rotate_left; · simp only [Act.put, sT, s0, sS, i64_w, i32_w]; rfl)
                  refine pA_ 20 49 ?_ (tf 33 2097151) rfl rfl (any_of HT_.out (by kernel_rfl)) (fun _ _ _ h => h) (by rfl) ?_ ?_ ?_ ?_
                  (rotate_left; · intro w'; go_simp; with_reducible rfl)
                  (rotate_left; · simp only [Act.put, sT, s0, sS, i64_w, i32_w]; rfl)
                  refine pA_ 21 50 ?_ (tf 33 4194303) rfl rfl (any_of HT_.out (by kernel_rfl)) (fun _ _ _ h => h) (by rfl) ?_ ?_ ?_ ?_
                  (rotate_left; · intro w'; go_simp; with_reducible rfl)
                  (rotate_left; · simp only [Act.put, sT, s0, sS, i64_w, i32_w]; rfl)
                  refine pA_ 22 51 ?_ (tf 33 8388607) rfl rfl (any_of HT_.out (by kernel_rfl)) (fun _ _ _ h => h) (by rfl) ?_ ?_ ?_ ?_
                  (rotate_left; · intro w'; go_simp; with_reducible rfl)
                  (rotate_left; · simp only [Act.put, sT, s0, sS, i64_w, i32_w]; rfl)
                  refine pA_ 23 52 ?_ (tf 33 16777215) rfl rfl (any_of HT_.out (by kernel_rfl)) (fun _ _ _ h => h) (by rfl) ?_ ?_ ?_ ?_
                  (rotate_left; · intro w'; go_simp; with_reducible rfl)
                  (rotate_left; · simp only [Act.put, sT, s0, sS, i64_w, i32_w]; rfl)
                  refine pA_ 25 54 ?_ (tf 33 50331647) rfl rfl (any_of HT_.out (by kernel_rfl)) (fun _ _ _ h => h) (by rfl) ?_ ?_ ?_ ?_
                  (rotate_left; · intro w'; go_simp; with_reducible rfl)
                  (rotate_left; · simp only [Act.put, sT, s0, sS, i64_w, i32_w]; rfl)
                  refine pA_ 26 55 ?_ (tf 33 117440511) rfl rfl (any_of HT_.out (by kernel_rfl)) (fun _ _ _ h => h) (by rfl) ?_ ?_ ?_ ?_
                  (rotate_left; · intro w'; go_simp; with_reducible rfl)
                  (rotate_left; · simp only [Act.put, sT, s0, sS, i64_w, i32_w]; rfl)
                  refine pA_ 27 56 ?_ (tf 33 251658239) rfl rfl (any_of HT_.out (by kernel_rfl)) (fun _ _ _ h => h) (by rfl) ?_ ?_ ?_ ?_
                  (rotate_left; · intro w'; go_simp; with_reducible rfl)
                  (rotate_left; · simp only [Act.put, sT, s0, sS, i64_w, i32_w]; rfl)
                  refine pA_ 28 57 ?_ (tf 33 520093695) rfl rfl (any_of HT_.out (by kernel_rfl)) (fun _ _ _ h => h) (by rfl) ?_ ?_ ?_ ?_
                  (rotate_left; · intro w'; go_simp; with_reducible rfl)
                  (rotate_left; · simp only [Act.put, sT, s0, sS, i64_w, i32_w]; rfl)
                  refine pA_ 29 58 ?_ (tf 33 1056964607) rfl rfl (any_of HT_.out (by kernel_rfl)) (fun _ _ _ h => h) (by rfl) ?_ ?_ ?_ ?_
                  (rotate_left; · intro w'; go_simp; with_reducible rfl)
                  (rotate_left; · simp only [Act.put, sT, s0, sS, i64_w, i32_w]; rfl)
                  refine tK_ 24 53 ?_ (tf 33 1073741823) rfl rfl (take_ofW HT_.out HW_.out (by kernel_rfl)) (fun _ _ _ h => h) (by rfl) ?_ hHeld ?_ ?_ ?_
                  (rotate_left; · rintro w' ⟨s0, s1⟩; go_simp; with_reducible rfl)
                  (rotate_left; · simp only [Act.put, sT, s0, sS, i64_w, i32_w]; rfl)
                  refine tK_ 30 59 ?_ (tf 33 2147483647) rfl rfl (take_ofW HT_.out HW_.out (by kernel_rfl)) (fun _ _ _ h => h) (by rfl) ?_ hHeld ?_ ?_ ?_
                  (rotate_left; · rintro w' ⟨s0, s1⟩; go_simp; with_reducible rfl)
                  (rotate_left; · simp only [Act.put, sT, s0, sS, i64_w, i32_w]; rfl)
                  refine pA_ 31 60 ?_ (tf 33 4294967295) rfl rfl (any_of HT_.out (by kernel_rfl)) (fun _ _ _ h => h) (by rfl) ?_ ?_ ?_ ?_
                  (rotate_left; · intro w'; go_simp; with_reducible rfl)
                  (rotate_left; · simp only [Act.put, sT, s0, sS, i64_w, i32_w]; rfl)
                  refine pA_ 32 61 ?_ (tf 33 8589934591) rfl rfl (any_of HT_.out (by kernel_rfl)) (fun _ _ _ h => h) (by rfl) ?_ ?_ ?_ ?_
                  (rotate_left; · intro w'; go_simp; with_reducible rfl)
                  (rotate_left; · simp only [Act.put, sT, s0, sS, i64_w, i32_w]; rfl)
                  refine done_ (done_of HT_.out (by kernel_rfl)) ?_
                  try go_wp2
                  go_roundg k4
                  case measure => have := HJ2.out; have := HK2.out; have := HK3.out; have := HK4.out; omega
                  case rel => exact ⟨(wrap64 (x10_4 + 1)), (by first | rfl | (simp; done) | (simp [*]; done)), H', ⟨by have := HJ2.out; have := HK2.out; have := HK3.out; have := HK4.out; omega⟩, ⟨by (with_reducible repeat (first | apply Kd.S_alloc | apply Kd.S_drewN | apply Kd.S_drew)); exact HO_5.out⟩, ⟨by repeat (first | (with_reducible first | exact HB.out | apply below_alloc | apply pw_below_drewN | apply below_drew1) | exact HB.out)⟩⟩
                 ·rw [if_neg c17] at H
                  have c17b0 : ((rd l0 (ji13)) == (rd l1 (ji15))) = false := beq_eq_false_iff_ne.mpr c17
                  have c17b1 : ((rd l0 (ji13)) != (rd l1 (ji15))) = true := bne_iff_ne.mpr c17
                  by_cases c19 : x10_4 > x7_3
                  ·rw [if_pos c19] at H
                   have c19b0 : decide (x7_3 < x10_4) = true := decide_eq_true c19
                   clear c19
                   have H' := Aside0.mk H
                   clear H
                   try go_wp2
                   have n0_ := Aside0.mk (Kd.S_drew HO_5.out)
                   have n1_ := Aside0.mk (below_drew1 HB.out)
                   clear HO_5
                   clear HB
                   have HO_5 := n0_
                   have HB := n1_
                   clear n0_ n1_
                   have p192 : 0 ≤ ((ji13) : Int) := of_decide_eq_true (by first | (with_reducible assumption) | assumption)
                   have q192 : (ji13) < (l0.length : Int) := of_decide_eq_true (by first | (with_reducible assumption) | assumption)
                   obtain ⟨ad192, e192, hx192_0⟩ := Kd.at_int HR0.out (ji13) p192 q192
                   have hw192_0 := hx192_0
                   cases e192
                   try (replace hx192_0 := (HB.out.cell (World.block_lt_of_cell? w _ hx192_0)).trans hx192_0)
                   replace p192 := eq_true p192
                   replace q192 := eq_true q192
                   have p193 : 0 ≤ ((ji15) : Int) := of_decide_eq_true (by first | (with_reducible assumption) | assumption)
                   have q193 : (ji15) < (l1.length : Int) := of_decide_eq_true (by first | (with_reducible assumption) | assumption)
                   obtain ⟨ad193, e193, hx193_0⟩ := Kd.at_int HR1.out (ji15) p193 q193
                   have hw193_0 := hx193_0
                   cases e193
                   try (replace hx193_0 := (HB.out.cell (World.block_lt_of_cell? w _ hx193_0)).trans hx193_0)
                   replace p193 := eq_true p193
                   replace q193 := eq_true q193
                   refine start_ (n := 33) (S := fun w' => w'.cell? (ad192.add ((ji13)).toNat) = some (.int .u8 (rd l0 (ji13))) ∧ w'.cell? (ad193.add ((ji15)).toNat) = some (.int .u8 (rd l1 (ji15)))) (ds := []) (tf 33 0) (by kernel_rfl) rfl rfl ⟨((HB.out.cell (World.block_lt_of_cell? w _ hw192_0)).trans hw192_0), ((HB.out.cell (World.block_lt_of_cell? w _ hw193_0)).trans hw193_0)⟩ (fun hHeld => ?_); refine with_tabW impl_MakeDelta.tab11 impl_MakeDelta.bits11 (fun HT_ HW_ => ?_)
                   generalize wr.drew = w20 at HO_5 HB hx192_0 hx193_0 hHeld ⊢
                   refine pA_ 0 29 ?_ (tf 33 1) rfl rfl (any_of HT_.out (by kernel_rfl)) (fun _ _ _ h => h) (by rfl) ?_ ?_ ?_ ?_
                   (rotate_left; · intro w'; go_simp; with_reducible rfl)
                   (rotate_left; · simp only [Act.put, sT, s0, sS, i64_w, i32_w]; rfl)
                   refine pA_ 1 30 ?_ (tf 33 3) rfl rfl (any_of HT_.out (by kernel_rfl)) (fun _ _ _ h => h) (by rfl) ?_ ?_ ?_ ?_
                   (rotate_left; · intro w'; go_simp; with_reducible rfl)
                   (rotate_left; · simp only [Act.put, sT, s0, sS, i64_w, i32_w]; rfl)
                   refine pA_ 2 31 ?_ (tf 33 7) rfl rfl (any_of HT_.out (by kernel_rfl)) (fun _ _ _ h => h) (by rfl) ?_ ?_ ?_ ?_
                   (rotate_left; · intro w'; go_simp; with_reducible rfl)
                   (rotate_left; · simp only [Act.put, sT, s0, sS, i64_w, i32_w]; rfl)
                   refine pA_ 3 32 ?_ (tf 33 15) rfl rfl (any_of HT_.out (by kernel_rfl)) (fun _ _ _ h => h) (by rfl) ?_ ?_ ?_ ?_
                   (rotate_left; · intro w'; go_simp; with_reducible rfl)
                   (rotate_left; · simp only [Act.put, sT, s0, sS, i64_w, i32_w]; rfl)
                   refine pA_ 4 33 ?_ (tf 33 31) rfl rfl (any_of HT_.out (by kernel_rfl)) (fun _ _ _ h => h) (by rfl) ?_ ?_ ?_ ?_
                   (rotate_left; · intro w'; go_simp; with_reducible rfl)
                   (rotate_left; · simp only [Act.put, sT, s0, sS, i64_w, i32_w]; rfl)
                   refine pA_ 5 34 ?_ (tf 33 63) rfl rfl (any_of HT_.out (by kernel_rfl)) (fun _ _ _ h => h) (by rfl) ?_ ?_ ?_ ?_
                   (rotate_left; · intro w'; go_simp; with_reducible rfl)
                   (rotate_left; · simp only [Act.put, sT, s0, sS, i64_w, i32_w]; rfl)
                   refine pA_ 6 35 ?_ (tf 33 127) rfl rfl (any_of HT_.out (by kernel_rfl)) (fun _ _ _ h => h) (by rfl) ?_ ?_ ?_ ?_
                   (rotate_left; · intro w'; go_simp; with_reducible rfl)
                   (rotate_left; · simp only [Act.put, sT, s0, sS, i64_w, i32_w]; rfl)
                   refine pA_ 7 36 ?_ (tf 33 255) rfl rfl (any_of HT_.out (by kernel_rfl)) (fun _ _ _ h => h) (by rfl) ?_ ?_ ?_ ?_
                   (rotate_left; · intro w'; go_simp; with_reducible rfl)
                   (rotate_left; · simp only [Act.put, sT, s0, sS, i64_w, i32_w]; rfl)
                   refine pA_ 8 37 ?_ (tf 33 511) rfl rfl (any_of HT_.out (by kernel_rfl)) (fun _ _ _ h => h) (by rfl) ?_ ?_ ?_ ?_
                   (rotate_left; · intro w'; go_simp; with_reducible rfl)
                   (rotate_left; · simp only [Act.put, sT, s0, sS, i64_w, i32_w]; rfl)
                   refine pA_ 9 38 ?_ (tf 33 1023) rfl rfl (any_of HT_.out (by kernel_rfl)) (fun _ _ _ h => h) (by rfl) ?_ ?_ ?_ ?_
                   (rotate_left; · intro w'; go_simp; with_reducible rfl)
                   (rotate_left; · simp only [Act.put, sT, s0, sS, i64_w, i32_w]; rfl)
                   refine pA_ 10 39 ?_ (tf 33 2047) rfl rfl (any_of HT_.out (by kernel_rfl)) (fun _ _ _ h => h) (by rfl) ?_ ?_ ?_ ?_
                   (rotate_left; · intro w'; go_simp; with_reducible rfl)
                   (rotate_left; · simp only [Act.put, sT, s0, sS, i64_w, i32_w]; rfl)
                   refine pA_ 11 40 ?_ (tf 33 4095) rfl rfl (any_of HT_.out (by kernel_rfl)) (fun _ _ _ h => h) (by rfl) ?_ ?_ ?_ ?_
                   (rotate_left; · intro w'; go_simp; with_reducible rfl)
                   (rotate_left; · simp only [Act.put, sT, s0, sS, i64_w, i32_w]; rfl)
                   refine pA_ 12 41 ?_ (tf 33 8191) rfl rfl (any_of HT_.out (by kernel_rfl)) (fun _ _ _ h => h) (by rfl) ?_ ?_ ?_ ?_
                   (rotate_left; · intro w'; go_simp; with_reducible rfl)
                   (rotate_left; · simp only [Act.put, sT, s0, sS, i64_w, i32_w]; rfl)
                   refine pA_ 13 42 ?_ (tf 33 16383) rfl rfl (any_of HT_.out (by kernel_rfl)) (fun _ _ _ h => h) (by rfl) ?_ ?_ ?_ ?_
                   (rotate_left; · intro w'; go_simp; with_reducible rfl)
                   (rotate_left; · simp only [Act.put, sT, s0, sS, i64_w, i32_w]; rfl)
                   refine pA_ 14 43 ?_ (tf 33 32767) rfl rfl (any_of HT_.out (by kernel_rfl)) (fun _ _ _ h => h) (by rfl) ?_ ?_ ?_ ?_
                   (rotate_left; · intro w'; go_simp; with_reducible rfl)
                   (rotate_left; · simp only [Act.put, sT, s0, sS, i64_w, i32_w]; rfl)
                   refine pA_ 15 44 ?_ (tf 33 65535) rfl rfl (any_of HT_.out (by kernel_rfl)) (fun _ _ _ h => h) (by rfl) ?_ ?_ ?_ ?_
                   (rotate_left; · intro w'; go_simp; with_reducible rfl)
                   (rotate_left; · simp only [Act.put, sT, s0, sS, i64_w, i32_w]; rfl)
                   refine pA_ 16 45 ?_ (tf 33 131071) rfl rfl (any_of HT_.out (by kernel_rfl)) (fun _ _ _ h => h) (by rfl) ?_ ?_ ?_ ?_
                   (rotate_left; · intro w'; go_simp; with_reducible rfl)
                   (rotate_left; · simp only [Act.put, sT, s0, sS, i64_w, i32_w]; rfl)
                   refine pA_ 17 46 ?_ (tf 33 262143) rfl rfl (any_of HT_.out (by kernel_rfl)) (fun _ _ _ h => h) (by rfl) ?_ ?_ ?_ ?_
                   (rotate_left; · intro w'; go_simp; with_reducible rfl)
                   (rotate_left; · simp only [Act.put, sT, s0, sS, i64_w, i32_w]; rfl)
                   refine pA_ 18 47 ?_ (tf 33 524287) rfl rfl (any_of HT_.out (by kernel_rfl)) (fun _ _ _ h => h) (by rfl) ?_ ?_ ?_ ?_
                   (rotate_left; · intro w'; go_simp; with_reducible rfl)
                   (rotate_left; · simp only [Act.put, sT, s0, sS, i64_w, i32_w]; rfl)
                   refine pA_ 19 48 ?_ (tf 33 1048575) rfl rfl (any_of HT_.out (by kernel_rfl)) (fun _ _ _ h => h) (by rfl) ?_ ?_ ?_ ?_
                   (rotate_left; · intro w'; go_simp; with_reducible rfl)
                   (rotate_left; · simp only [Act.put, sT, s0, sS, i64_w, i32_w]; rfl)
                   refine pA_ 20 49 ?_ (tf 33 2097151) rfl rfl (any_of HT_.out (by kernel_rfl)) (fun _ _ _ h => h) (by rfl) ?_ ?_ ?_ ?_
                   (rotate_left; · intro w'; go_simp; with_reducible rfl)
                   (rotate_left; · simp only [Act.put, sT, s0, sS, i64_w, i32_w]; rfl)
                   refine pA_ 21 50 ?_ (tf 33 4194303) rfl rfl (any_of HT_.out (by kernel_rfl)) (fun _ _ _ h => h) (by rfl) ?_ ?_ ?_ ?_
                   (rotate_left; · intro w'; go_simp; with_reducible rfl)
                   (rotate_left; · simp only [Act.put, sT, s0, sS, i64_w, i32_w]; rfl)
                   refine pA_ 22 51 ?_ (tf 33 8388607) rfl rfl (any_of HT_.out (by kernel_rfl)) (fun _ _ _ h => h) (by rfl) ?_ ?_ ?_ ?_
                   (rotate_left; · intro w'; go_simp; with_reducible rfl)
                   (rotate_left; · simp only [Act.put, sT, s0, sS, i64_w, i32_w]; rfl)
                   refine pA_ 23 52 ?_ (tf 33 16777215) rfl rfl (any_of HT_.out (by kernel_rfl)) (fun _ _ _ h => h) (by rfl) ?_ ?_ ?_ ?_
                   (rotate_left; · intro w'; go_simp; with_reducible rfl)
                   (rotate_left; · simp only [Act.put, sT, s0, sS, i64_w, i32_w]; rfl)
                   refine pA_ 25 54 ?_ (tf 33 50331647) rfl rfl (any_of HT_.out (by kernel_rfl)) (fun _ _ _ h => h) (by rfl) ?_ ?_ ?_ ?_
                   (rotate_left; · intro w'; go_simp; with_reducible rfl)
                   (rotate_left; · simp only [Act.put, sT, s0, sS, i64_w, i32_w]; rfl)
                   refine pA_ 26 55 ?_ (tf 33 117440511) rfl rfl (any_of HT_.out (by kernel_rfl)) (fun _ _ _ h => h) (by rfl) ?_ ?_ ?_ ?_
                   (rotate_left; · intro w'; go_simp; with_reducible rfl)
                   (rotate_left; · simp only [Act.put, sT, s0, sS, i64_w, i32_w]; rfl)
                   refine pA_ 27 56 ?_ (tf 33 251658239) rfl rfl (any_of HT_.out (by kernel_rfl)) (fun _ _ _ h => h) (by rfl) ?_ ?_ ?_ ?_
                   (rotate_left; · intro w'; go_simp; with_reducible rfl)
                   (rotate_left; · simp only [Act.put, sT, s0, sS, i64_w, i32_w]; rfl)
                   refine pA_ 28 57 ?_ (tf 33 520093695) rfl rfl (any_of HT_.out (by kernel_rfl)) (fun _ _ _ h => h) (by rfl) ?_ ?_ ?_ ?_
                   (rotate_left; · intro w'; go_simp; with_reducible rfl)
                   (rotate_left; · simp only [Act.put, sT, s0, sS, i64_w, i32_w]; rfl)
                   refine pA_ 29 58 ?_ (tf 33 1056964607) rfl rfl (any_of HT_.out (by kernel_rfl)) (fun _ _ _ h => h) (by rfl) ?_ ?_ ?_ ?_
                   (rotate_left; · intro w'; go_simp; with_reducible rfl)
                   (rotate_left; · simp only [Act.put, sT, s0, sS, i64_w, i32_w]; rfl)
                   refine tK_ 24 53 ?_ (tf 33 1073741823) rfl rfl (take_ofW HT_.out HW_.out (by kernel_rfl)) (fun _ _ _ h => h) (by rfl) ?_ hHeld ?_ ?_ ?_
                   (rotate_left; · rintro w' ⟨s0, s1⟩; go_simp; with_reducible rfl)
                   (rotate_left; · simp only [Act.put, sT, s0, sS, i64_w, i32_w]; rfl)
                   refine tK_ 30 59 ?_ (tf 33 2147483647) rfl rfl (take_ofW HT_.out HW_.out (by kernel_rfl)) (fun _ _ _ h => h) (by rfl) ?_ hHeld ?_ ?_ ?_
                   (rotate_left; · rintro w' ⟨s0, s1⟩; go_simp; with_reducible rfl)
                   (rotate_left; · simp only [Act.put, sT, s0, sS, i64_w, i32_w]; rfl)
                   refine pA_ 31 60 ?_ (tf 33 4294967295) rfl rfl (any_of HT_.out (by kernel_rfl)) (fun _ _ _ h => h) (by rfl) ?_ ?_ ?_ ?_
                   (rotate_left; · intro w'; go_simp; with_reducible rfl)
                   (rotate_left; · simp only [Act.put, sT, s0, sS, i64_w, i32_w]; rfl)
                   refine pA_ 32 61 ?_ (tf 33 8589934591) rfl rfl (any_of HT_.out (by kernel_rfl)) (fun _ _ _ h => h) (by rfl) ?_ ?_ ?_ ?_
                   (rotate_left; · intro w'; go_simp; with_reducible rfl)
                   (rotate_left; · simp only [Act.put, sT, s0, sS, i64_w, i32_w]; rfl)
                   refine done_ (done_of HT_.out (by kernel_rfl)) ?_
                   try go_wp2
                   go_roundg k4
                   case measure => have := HJ2.out; have := HK2.out; have := HK3.out; have := HK4.out; omega
                   case rel => exact ⟨(x10_4), (x26_3), (wrap64 (x26_3 + 1)), (by first | rfl | (simp; done) | (simp [*]; done)), (by first | rfl | (simp; done) | (simp [*]; done)), (by first | rfl | (simp; done) | (simp [*]; done)), H', ⟨by have := HJ2.out; have := HK2.out; have := HK3.out; have := HK4.out; omega⟩, ⟨by (with_reducible repeat (first | apply Kd.S_alloc | apply Kd.S_drewN | apply Kd.S_drew)); exact HO_5.out⟩, ⟨by repeat (first | (with_reducible first | exact HB.out | apply below_alloc | apply pw_below_drewN | apply below_drew1) | exact HB.out)⟩⟩
                  ·rw [if_neg c19] at H
                   have c19b0 : decide (x7_3 < x10_4) = false := decide_eq_false c19
                   clear c19
                   have H' := Aside0.mk H
                   clear H
                   try go_wp2
                   have n0_ := Aside0.mk (Kd.S_drew HO_5.out)
                   have n1_ := Aside0.mk (below_drew1 HB.out)
                   clear HO_5
                   clear HB
                   have HO_5 := n0_
                   have HB := n1_
                   clear n0_ n1_
                   have p192 : 0 ≤ ((ji13) : Int) := of_decide_eq_true (by first | (with_reducible assumption) | assumption)
                   have q192 : (ji13) < (l0.length : Int) := of_decide_eq_true (by first | (with_reducible assumption) | assumption)
                   obtain ⟨ad192, e192, hx192_0⟩ := Kd.at_int HR0.out (ji13) p192 q192
                   have hw192_0 := hx192_0
                   cases e192
                   try (replace hx192_0 := (HB.out.cell (World.block_lt_of_cell? w _ hx192_0)).trans hx192_0)
                   replace p192 := eq_true p192
                   replace q192 := eq_true q192
                   have p193 : 0 ≤ ((ji15) : Int) := of_decide_eq_true (by first | (with_reducible assumption) | assumption)
                   have q193 : (ji15) < (l1.length : Int) := of_decide_eq_true (by first | (with_reducible assumption) | assumption)
                   obtain ⟨ad193, e193, hx193_0⟩ := Kd.at_int HR1.out (ji15) p193 q193
                   have hw193_0 := hx193_0
                   cases e193
                   try (replace hx193_0 := (HB.out.cell (World.block_lt_of_cell? w _ hx193_0)).trans hx193_0)
                   replace p193 := eq_true p193
                   replace q193 := eq_true q193
                   refine start_ (n := 33) (S := fun w' => w'.cell? (ad192.add ((ji13)).toNat) = some (.int .u8 (rd l0 (ji13))) ∧ w'.cell? (ad193.add ((ji15)).toNat) = some (.int .u8 (rd l1 (ji15)))) (ds := []) (tf 33 0) (by kernel_rfl) rfl rfl ⟨((HB.out.cell (World.block_lt_of_cell? w _ hw192_0)).trans hw192_0), ((HB.out.cell (World.block_lt_of_cell? w _ hw193_0)).trans hw193_0)⟩ (fun hHeld => ?_); refine with_tabW impl_MakeDelta.tab11 impl_MakeDelta.bits11 (fun HT_ HW_ => ?_)
                   generalize wr.drew = w21 at HO_5 HB hx192_0 hx193_0 hHeld ⊢
                   refine pA_ 0 29 ?_ (tf 33 1) rfl rfl (any_of HT_.out (by kernel_rfl)) (fun _ _ _ h => h) (by rfl) ?_ ?_ ?_ ?_
                   (rotate_left; · intro w'; go_simp; with_reducible rfl)
                   (rotate_left; · simp only [Act.put, sT, s0, sS, i64_w, i32_w]; rfl)
                   refine pA_ 1 30 ?_ (tf 33 3) rfl rfl (any_of HT_.out (by kernel_rfl)) (fun _ _ _ h => h) (by rfl) ?_ ?_ ?_ ?_
                   (rotate_left; · intro w'; go_simp; with_reducible rfl)
                   (rotate_left; · simp only [Act.put, sT, s0, sS, i64_w, i32_w]; rfl)
                   refine pA_ 2 31 ?_ (tf 33 7) rfl rfl (any_of HT_.out (by kernel_rfl)) (fun _ _ _ h => h) (by rfl) ?_ ?_ ?_ ?_
                   (rotate_left; · intro w'; go_simp; with_reducible rfl)
                   (rotate_left; · simp only [Act.put, sT, s0, sS, i64_w, i32_w]; rfl)
                   refine pA_ 3 32 ?_ (tf 33 15) rfl rfl (any_of HT_.out (by kernel_rfl)) (fun _ _ _ h => h) (by rfl) ?_ ?_ ?_ ?_
                   (rotate_left; · intro w'; go_simp; with_reducible rfl)
                   (rotate_left; · simp only [Act.put, sT, s0, sS, i64_w, i32_w]; rfl)
                   refine pA_ 4 33 ?_ (tf 33 31) rfl rfl (any_of HT_.out (by kernel_rfl)) (fun _ _ _ h => h) (by rfl) ?_ ?_ ?_ ?_
                   (rotate_left; · intro w'; go_simp; with_reducible rfl)
                   (rotate_left; · simp only [Act.put, sT, s0, sS, i64_w, i32_w]; rfl)
                   refine pA_ 5 34 ?_ (tf 33 63) rfl rfl (any_of HT_.out (by kernel_rfl)) (fun _ _ _ h => h) (by rfl) ?_ ?_ ?_ ?_
                   (rotate_left; · intro w'; go_simp; with_reducible rfl)
                   (rotate_left; · simp only [Act.put, sT, s0, sS, i64_w, i32_w]; rfl)
                   refine pA_ 6 35 ?_ (tf 33 127) rfl rfl (any_of HT_.out (by kernel_rfl)) (fun _ _ _ h => h) (by rfl) ?_ ?_ ?_ ?_
                   (rotate_left; · intro w'; go_simp; with_reducible rfl)
                   (rotate_left; · simp only [Act.put, sT, s0, sS, i64_w, i32_w]; rfl)
                   refine pA_ 7 36 ?_ (tf 33 255) rfl rfl (any_of HT_.out (by kernel_rfl)) (fun _ _ _ h => h) (by rfl) ?_ ?_ ?_ ?_
                   (rotate_left; · intro w'; go_simp; with_reducible rfl)
                   (rotate_left; · simp only [Act.put, sT, s0, sS, i64_w, i32_w]; rfl)
                   refine pA_ 8 37 ?_ (tf 33 511) rfl rfl (any_of HT_.out (by kernel_rfl)) (fun _ _ _ h => h) (by rfl) ?_ ?_ ?_ ?_
                   (rotate_left; · intro w'; go_simp; with_reducible rfl)
                   (rotate_left; · simp only [Act.put, sT, s0, sS, i64_w, i32_w]; rfl)
                   refine pA_ 9 38 ?_ (tf 33 1023) rfl rfl (any_of HT_.out (by kernel_rfl)) (fun _ _ _ h => h) (by rfl) ?_ ?_ ?_ ?_
                   (rotate_left; · intro w'; go_simp; with_reducible rfl)
                   (rotate_left; · simp only [Act.put, sT, s0, sS, i64_w, i32_w]; rfl)
                   refine pA_ 10 39 ?_ (tf 33 2047) rfl rfl (any_of HT_.out (by kernel_rfl)) (fun _ _ _ h => h) (by rfl) ?_ ?_ ?_ ?_
                   (rotate_left; · intro w'; go_simp; with_reducible rfl)
                   (rotate_left; · simp only [Act.put, sT, s0, sS, i64_w, i32_w]; rfl)
                   refine pA_ 11 40 ?_ (tf 33 4095) rfl rfl (any_of HT_.out (by kernel_rfl)) (fun _ _ _ h => h) (by rfl) ?_ ?_ ?_ ?_
                   (rotate_left; · intro w'; go_simp; with_reducible rfl)
                   (rotate_left; · simp only [Act.put, sT, s0, sS, i64_w, i32_w]; rfl)
                   refine pA_ 12 41 ?_ (tf 33 8191) rfl rfl (any_of HT_.out (by kernel_rfl)) (fun _ _ _ h => h) (by rfl) ?_ ?_ ?_ ?_
                   (rotate_left; · intro w'; go_simp; with_reducible rfl)
                   (rotate_left; · simp only [Act.put, sT, s0, sS, i64_w, i32_w]; rfl)
                   refine pA_ 13 42 ?_ (tf 33 16383) rfl rfl (any_of HT_.out (by kernel_rfl)) (fun _ _ _ h => h) (by rfl) ?_ ?_ ?_ ?_
                   (rotate_left; · intro w'; go_simp; with_reducible rfl)
                   (rotate_left; · simp only [Act.put, sT, s0, sS, i64_w, i32_w]; rfl)
                   refine pA_ 14 43 ?_ (tf 33 32767) rfl rfl (any_of HT_.out (by kernel_rfl)) (fun _ _ _ h => h) (by rfl) ?_ ?_ ?_ ?_
                   (rotate_left; · intro w'; go_simp; with_reducible rfl)
                   (rotate_left; · simp only [Act.put, sT, s0, sS, i64_w, i32_w]; rfl)
                   refine pA_ 15 44 ?_ (tf 33 65535) rfl rfl (any_of HT_.out (by kernel_rfl)) (fun _ _ _ h => h) (by rfl) ?_ ?_ ?_ ?_
                   (rotate_left; · intro w'; go_simp; with_reducible rfl)
                   (rotate_left; · simp only [Act.put, sT, s0, sS, i64_w, i32_w]; rfl)
                   refine pA_ 16 45 ?_ (tf 33 131071) rfl rfl (any_of HT_.out (by kernel_rfl)) (fun _ _ _ h => h) (by rfl) ?_ ?_ ?_ ?_
                   (rotate_left; · intro w'; go_simp; with_reducible rfl)
                   (rotate_left; · simp only [Act.put, sT, s0, sS, i64_w, i32_w]; rfl)
                   refine pA_ 17 46 ?_ (tf 33 262143) rfl rfl (any_of HT_.out (by kernel_rfl)) (fun _ _ _ h => h) (by rfl) ?_ ?_ ?_ ?_
                   (rotate_left; · intro w'; go_simp; with_reducible rfl)
                   (rotate_left; · simp only [Act.put, sT, s0, sS, i64_w, i32_w]; rfl)
                   refine pA_ 18 47 ?_ (tf 33 524287) rfl rfl (any_of HT_.out (by kernel_rfl)) (fun _ _ _ h => h) (by rfl) ?_ ?_ ?_ ?_
                   (rotate_left; · intro w'; go_simp; with_reducible rfl)
                   (rotate_left; · simp only [Act.put, sT, s0, sS, i64_w, i32_w]; rfl)
                   refine pA_ 19 48 ?_ (tf 33 1048575) rfl rfl (any_of HT_.out (by kernel_rfl)) (fun _ _ _ h => h) (by rfl) ?_ ?_ ?_ ?_
                   (rotate_left; · intro w'; go_simp; with_reducible rfl)
                   (rotate_left; · simp only [Act.put, sT, s0, sS, i64_w, i32_w]; rfl)
                   refine pA_ 20 49 ?_ (tf 33 2097151) rfl rfl (any_of HT_.out (by kernel_rfl)) (fun _ _ _ h => h) (by rfl) ?_ ?_ ?_ ?_
                   (rotate_left; · intro w'; go_simp; with_reducible rfl)
                   (rotate_left; · simp only [Act.put, sT, s0, sS, i64_w, i32_w]; rfl)
                   refine pA_ 21 50 ?_ (tf 33 4194303) rfl rfl (any_of HT_.out (by kernel_rfl)) (fun _ _ _ h => h) (by rfl) ?_ ?_ ?_ ?_
                   (rotate_left; · intro w'; go_simp; with_reducible rfl)
                   (rotate_left; · simp only [Act.put, sT, s0, sS, i64_w, i32_w]; rfl)
                   refine pA_ 22 51 ?_ (tf 33 8388607) rfl rfl (any_of HT_.out (by kernel_rfl)) (fun _ _ _ h => h) (by rfl) ?_ ?_ ?_ ?_
                   (rotate_left; · intro w'; go_simp; with_reducible rfl)
                   (rotate_left; · simp only [Act.put, sT, s0, sS, i64_w, i32_w]; rfl)
                   refine pA_ 23 52 ?_ (tf 33 16777215) rfl rfl (any_of HT_.out (by kernel_rfl)) (fun _ _ _ h => h) (by rfl) ?_ ?_ ?_ ?_
                   (rotate_left; · intro w'; go_simp; with_reducible rfl)
                   (rotate_left; · simp only [Act.put, sT, s0, sS, i64_w, i32_w]; rfl)
                   refine pA_ 25 54 ?_ (tf 33 50331647) rfl rfl (any_of HT_.out (by kernel_rfl)) (fun _ _ _ h => h) (by rfl) ?_ ?_ ?_ ?_
                   (rotate_left; · intro w'; go_simp; with_reducible rfl)
                   (rotate_left; · simp only [Act.put, sT, s0, sS, i64_w, i32_w]; rfl)
                   refine pA_ 26 55 ?_ (tf 33 117440511) rfl rfl (any_of HT_.out (by kernel_rfl)) (fun _ _ _ h => h) (by rfl) ?_ ?_ ?_ ?_
                   (rotate_left; · intro w'; go_simp; with_reducible rfl)
                   (rotate_left; · simp only [Act.put, sT, s0, sS, i64_w, i32_w]; rfl)
                   refine pA_ 27 56 ?_ (tf 33 251658239) rfl rfl (any_of HT_.out (by kernel_rfl)) (fun _ _ _ h => h) (by rfl) ?_ ?_ ?_ ?_
                   (rotate_left; · intro w'; go_simp; with_reducible rfl)
                   (rotate_left; · simp only [Act.put, sT, s0, sS, i64_w, i32_w]; rfl)
                   refine pA_ 28 57 ?_ (tf 33 520093695) rfl rfl (any_of HT_.out (by kernel_rfl)) (fun _ _ _ h => h) (by rfl) ?_ ?_ ?_ ?_
                   (rotate_left; · intro w'; go_simp; with_reducible rfl)
                   (rotate_left; · simp only [Act.put, sT, s0, sS, i64_w, i32_w]; rfl)
                   refine pA_ 29 58 ?_ (tf 33 1056964607) rfl rfl (any_of HT_.out (by kernel_rfl)) (fun _ _ _ h => h) (by rfl) ?_ ?_ ?_ ?_
                   (rotate_left; · intro w'; go_simp; with_reducible rfl)
                   (rotate_left; · simp only [Act.put, sT, s0, sS, i64_w, i32_w]; rfl)
                   refine tK_ 24 53 ?_ (tf 33 1073741823) rfl rfl (take_ofW HT_.out HW_.out (by kernel_rfl)) (fun _ _ _ h => h) (by rfl) ?_ hHeld ?_ ?_ ?_
                   (rotate_left; · rintro w' ⟨s0, s1⟩; go_simp; with_reducible rfl)
                   (rotate_left; · simp only [Act.put, sT, s0, sS, i64_w, i32_w]; rfl)
                   refine tK_ 30 59 ?_ (tf 33 2147483647) rfl rfl (take_ofW HT_.out HW_.out (by kernel_rfl)) (fun _ _ _ h => h) (by rfl) ?_ hHeld ?_ ?_ ?_
                   (rotate_left; · rintro w' ⟨s0, s1⟩; go_simp; with_reducible rfl)
                   (rotate_left; · simp only [Act.put, sT, s0, sS, i64_w, i32_w]; rfl)
                   refine pA_ 31 60 ?_ (tf 33 4294967295) rfl rfl (any_of HT_.out (by kernel_rfl)) (fun _ _ _ h => h) (by rfl) ?_ ?_ ?_ ?_
                   (rotate_left; · intro w'; go_simp; with_reducible rfl)
                   (rotate_left; · simp only [Act.put, sT, s0, sS, i64_w, i32_w]; rfl)
                   refine pA_ 32 61 ?_ (tf 33 8589934591) rfl rfl (any_of HT_.out (by kernel_rfl)) (fun _ _ _ h => h) (by rfl) ?_ ?_ ?_ ?_
                   (rotate_left; · intro w'; go_simp; with_reducible rfl)
                   (rotate_left; · simp only [Act.put, sT, s0, sS, i64_w, i32_w]; rfl)
                   refine done_ (done_of HT_.out (by kernel_rfl)) ?_
                   try go_wp2
                   go_roundg k4
                   case measure => have := HJ2.out; have := HK2.out; have := HK3.out; have := HK4.out; omega
                   case rel => exact ⟨(x7_3), (x8_3), (wrap64 (x26_3 + 1)), (by first | rfl | (simp; done) | (simp [*]; done)), (by first | rfl | (simp; done) | (simp [*]; done)), (by first | rfl | (simp; done) | (simp [*]; done)), H', ⟨by have := HJ2.out; have := HK2.out; have := HK3.out; have := HK4.out; omega⟩, ⟨by (with_reducible repeat (first | apply Kd.S_alloc | apply Kd.S_drewN | apply Kd.S_drew)); exact HO_5.out⟩, ⟨by repeat (first | (with_reducible first | exact HB.out | apply below_alloc | apply pw_below_drewN | apply below_drew1) | exact HB.out)⟩⟩
                ·rw [if_neg c16] at H
                 exact absurd H (by simp)
               ·rw [if_neg c14] at H
                exact absurd H (by simp)
              ·rw [if_neg c12] at H
               have c12b0 : decide ((wrap64 (x6_2 + x10_4)) < (l1.length : Int)) = false := decide_eq_false c12
               clear c12
               by_cases c22 : x10_4 > x7_3
               ·rw [if_pos c22] at H
                have c22b0 : decide (x7_3 < x10_4) = true := decide_eq_true c22
                clear c22
                have H' := Aside0.mk H
                clear H
                try go_wp2
                have n0_ := Aside0.mk (Kd.S_drew HO_5.out)
                have n1_ := Aside0.mk (below_drew1 HB.out)
                clear HO_5
                clear HB
                have HO_5 := n0_
                have HB := n1_
                clear n0_ n1_
                refine start_ (n := 33) (S := fun w' => True) (ds := []) (tf 33 0) (by kernel_rfl) rfl rfl trivial (fun hHeld => ?_); refine with_tabW impl_MakeDelta.tab11 impl_MakeDelta.bits11 (fun HT_ HW_ => ?_)
                generalize wr.drew = w23 at HO_5 HB hHeld ⊢
                refine pA_ 0 29 ?_ (tf 33 1) rfl rfl (any_of HT_.out (by kernel_rfl)) (fun _ _ _ h => h) (by rfl) ?_ ?_ ?_ ?_
                (rotate_left; · intro w'; go_simp; with_reducible rfl)
                (rotate_left; · simp only [Act.put, sT, s0, sS, i64_w, i32_w]; rfl)
                refine pA_ 1 30 ?_ (tf 33 3) rfl rfl (any_of HT_.out (by kernel_rfl)) (fun _ _ _ h => h) (by rfl) ?_ ?_ ?_ ?_
                (rotate_left; · intro w'; go_simp; with_reducible rfl)
                (rotate_left; · simp only [Act.put, sT, s0, sS, i64_w, i32_w]; rfl)
                refine pA_ 2 31 ?_ (tf 33 7) rfl rfl (any_of HT_.out (by kernel_rfl)) (fun _ _ _ h => h) (by rfl) ?_ ?_ ?_ ?_
                (rotate_left; · intro w'; go_simp; with_reducible rfl)
                (rotate_left; · simp only [Act.put, sT, s0, sS, i64_w, i32_w]; rfl)
                refine pA_ 3 32 ?_ (tf 33 15) rfl rfl (any_of HT_.out (by kernel_rfl)) (fun _ _ _ h => h) (by rfl) ?_ ?_ ?_ ?_
                (rotate_left; · intro w'; go_simp; with_reducible rfl)
                (rotate_left; · simp only [Act.put, sT, s0, sS, i64_w, i32_w]; rfl)
                refine pA_ 4 33 ?_ (tf 33 31) rfl rfl (any_of HT_.out (by kernel_rfl)) (fun _ _ _ h => h) (by rfl) ?_ ?_ ?_ ?_
                (rotate_left; · intro w'; go_simp; with_reducible rfl)
                (rotate_left; · simp only [Act.put, sT, s0, sS, i64_w, i32_w]; rfl)
                refine pA_ 5 34 ?_ (tf 33 63) rfl rfl (any_of HT_.out (by kernel_rfl)) (fun _ _ _ h => h) (by rfl) ?_ ?_ ?_ ?_
                (rotate_left; · intro w'; go_simp; with_reducible rfl)
                (rotate_left; · simp only [Act.put, sT, s0, sS, i64_w, i32_w]; rfl)
                refine pA_ 6 35 ?_ (tf 33 127) rfl rfl (any_of HT_.out (by kernel_rfl)) (fun _ _ _ h => h) (by rfl) ?_ ?_ ?_ ?_
                (rotate_left; · intro w'; go_simp; with_reducible rfl)
                (rotate_left; · simp only [Act.put, sT, s0, sS, i64_w, i32_w]; rfl)
                refine pA_ 7 36 ?_ (tf 33 255) rfl rfl (any_of HT_.out (by kernel_rfl)) (fun _ _ _ h => h) (by rfl) ?_ ?_ ?_ ?_
                (rotate_left; · intro w'; go_simp; with_reducible rfl)
                (rotate_left; · simp only [Act.put, sT, s0, sS, i64_w, i32_w]; rfl)
                refine pA_ 8 37 ?_ (tf 33 511) rfl rfl (any_of HT_.out (by kernel_rfl)) (fun _ _ _ h => h) (by rfl) ?_ ?_ ?_ ?_
                (rotate_left; · intro w'; go_simp; with_reducible rfl)
                (rotate_left; · simp only [Act.put, sT, s0, sS, i64_w, i32_w]; rfl)
                refine pA_ 9 38 ?_ (tf 33 1023) rfl rfl (any_of HT_.out (by kernel_rfl)) (fun _ _ _ h => h) (by rfl) ?_ ?_ ?_ ?_
                (rotate_left; · intro w'; go_simp; with_reducible rfl)
                (rotate_left; · simp only [Act.put, sT, s0, sS, i64_w, i32_w]; rfl)
                refine pA_ 10 39 ?_ (tf 33 2047) rfl rfl (any_of HT_.out (by kernel_rfl)) (fun _ _ _ h => h) (by rfl) ?_ ?_ ?_ ?_
                (rotate_left; · intro w'; go_simp; with_reducible rfl)
                (rotate_left; · simp only [Act.put, sT, s0, sS, i64_w, i32_w]; rfl)
                refine pA_ 11 40 ?_ (tf 33 4095) rfl rfl (any_of HT_.out (by kernel_rfl)) (fun _ _ _ h => h) (by rfl) ?_ ?_ ?_ ?_
                (rotate_left; · intro w'; go_simp; with_reducible rfl)
                (rotate_left; · simp only [Act.put, sT, s0, sS, i64_w, i32_w]; rfl)
                refine pA_ 12 41 ?_ (tf 33 8191) rfl rfl (any_of HT_.out (by kernel_rfl)) (fun _ _ _ h => h) (by rfl) ?_ ?_ ?_ ?_
                (rotate_left; · intro w'; go_simp; with_reducible rfl)
                (rotate_left; · simp only [Act.put, sT, s0, sS, i64_w, i32_w]; rfl)
                refine pA_ 13 42 ?_ (tf 33 16383) rfl rfl (any_of HT_.out (by kernel_rfl)) (fun _ _ _ h => h) (by rfl) ?_ ?_ ?_ ?_
                (rotate_left; · intro w'; go_simp; with_reducible rfl)
                (rotate_left; · simp only [Act.put, sT, s0, sS, i64_w, i32_w]; rfl)
                refine pA_ 14 43 ?_ (tf 33 32767) rfl rfl (any_of HT_.out (by kernel_rfl)) (fun _ _ _ h => h) (by rfl) ?_ ?_ ?_ ?_
                (rotate_left; · intro w'; go_simp; with_reducible rfl)
                (rotate_left; · simp only [Act.put, sT, s0, sS, i64_w, i32_w]; rfl)
                refine pA_ 15 44 ?_ (tf 33 65535) rfl rfl (any_of HT_.out (by kernel_rfl)) (fun _ _ _ h => h) (by rfl) ?_ ?_ ?_ ?_
                (rotate_left; · intro w'; go_simp; with_reducible rfl)
                (rotate_left; · simp only [Act.put, sT, s0, sS, i64_w, i32_w]; rfl)
                refine pA_ 16 45 ?_ (tf 33 131071) rfl rfl (any_of HT_.out (by kernel_rfl)) (fun _ _ _ h => h) (by rfl) ?_ ?_ ?_ ?_
                (rotate_left; · intro w'; go_simp; with_reducible rfl)
                (rotate_left; · simp only [Act.put, sT, s0, sS, i64_w, i32_w]; rfl)
                refine pA_ 17 46 ?_ (tf 33 262143) rfl rfl (any_of HT_.out (by kernel_rfl)) (fun _ _ _ h => h) (by rfl) ?_ ?_ ?_ ?_
                (rotate_left; · intro w'; go_simp; with_reducible rfl)
                (rotate_left; · simp only [Act.put, sT, s0, sS, i64_w, i32_w]; rfl)
                refine pA_ 18 47 ?_ (tf 33 524287) rfl rfl (any_of HT_.out (by kernel_rfl)) (fun _ _ _ h => h) (by rfl) ?_ ?_ ?_ ?_
                (rotate_left; · intro w'; go_simp; with_reducible rfl)
                (rotate_left; · simp only [Act.put, sT, s0, sS, i64_w, i32_w]; rfl)
                refine pU_ 19 48 (tf 33 1048575) rfl rfl (any_of HT_.out (by kernel_rfl)) (fun _ _ _ h => h) (by rfl) ?_ ?_ ?_
                (rotate_left; · simp only [Act.put, sT, s0, sS, i64_w, i32_w]; rfl)
                refine pU_ 20 49 (tf 33 2097151) rfl rfl (any_of HT_.out (by kernel_rfl)) (fun _ _ _ h => h) (by rfl) ?_ ?_ ?_
                (rotate_left; · simp only [Act.put, sT, s0, sS, i64_w, i32_w]; rfl)
                refine pU_ 21 50 (tf 33 4194303) rfl rfl (any_of HT_.out (by kernel_rfl)) (fun _ _ _ h => h) (by rfl) ?_ ?_ ?_
                (rotate_left; · simp only [Act.put, sT, s0, sS, i64_w, i32_w]; rfl)
                refine pU_ 22 51 (tf 33 8388607) rfl rfl (any_of HT_.out (by kernel_rfl)) (fun _ _ _ h => h) (by rfl) ?_ ?_ ?_
                (rotate_left; · simp only [Act.put, sT, s0, sS, i64_w, i32_w]; rfl)
                refine pU_ 23 52 (tf 33 16777215) rfl rfl (any_of HT_.out (by kernel_rfl)) (fun _ _ _ h => h) (by rfl) ?_ ?_ ?_
                (rotate_left; · simp only [Act.put, sT, s0, sS, i64_w, i32_w]; rfl)
                refine pU_ 24 53 (tf 33 33554431) rfl rfl (any_of HT_.out (by kernel_rfl)) (fun _ _ _ h => h) (by rfl) ?_ ?_ ?_
                (rotate_left; · simp only [Act.put, sT, s0, sS, i64_w, i32_w]; rfl)
                refine pU_ 25 54 (tf 33 67108863) rfl rfl (any_of HT_.out (by kernel_rfl)) (fun _ _ _ h => h) (by rfl) ?_ ?_ ?_
                (rotate_left; · simp only [Act.put, sT, s0, sS, i64_w, i32_w]; rfl)
                refine pU_ 26 55 (tf 33 134217727) rfl rfl (any_of HT_.out (by kernel_rfl)) (fun _ _ _ h => h) (by rfl) ?_ ?_ ?_
                (rotate_left; · simp only [Act.put, sT, s0, sS, i64_w, i32_w]; rfl)
                refine pU_ 27 56 (tf 33 268435455) rfl rfl (any_of HT_.out (by kernel_rfl)) (fun _ _ _ h => h) (by rfl) ?_ ?_ ?_
                (rotate_left; · simp only [Act.put, sT, s0, sS, i64_w, i32_w]; rfl)
                refine pU_ 28 57 (tf 33 536870911) rfl rfl (any_of HT_.out (by kernel_rfl)) (fun _ _ _ h => h) (by rfl) ?_ ?_ ?_
                (rotate_left; · simp only [Act.put, sT, s0, sS, i64_w, i32_w]; rfl)
                refine pU_ 29 58 (tf 33 1073741823) rfl rfl (any_of HT_.out (by kernel_rfl)) (fun _ _ _ h => h) (by rfl) ?_ ?_ ?_
                (rotate_left; · simp only [Act.put, sT, s0, sS, i64_w, i32_w]; rfl)
                refine pU_ 30 59 (tf 33 2147483647) rfl rfl (any_of HT_.out (by kernel_rfl)) (fun _ _ _ h => h) (by rfl) ?_ ?_ ?_
                (rotate_left; · simp only [Act.put, sT, s0, sS, i64_w, i32_w]; rfl)
                refine pU_ 31 60 (tf 33 4294967295) rfl rfl (any_of HT_.out (by kernel_rfl)) (fun _ _ _ h => h) (by rfl) ?_ ?_ ?_
                (rotate_left; · simp only [Act.put, sT, s0, sS, i64_w, i32_w]; rfl)
                refine pA_ 32 61 ?_ (tf 33 8589934591) rfl rfl (any_of HT_.out (by kernel_rfl)) (fun _ _ _ h => h) (by rfl) ?_ ?_ ?_ ?_
                (rotate_left; · intro w'; go_simp; with_reducible rfl)
                (rotate_left; · simp only [Act.put, sT, s0, sS, i64_w, i32_w]; rfl)
                refine done_ (done_of HT_.out (by kernel_rfl)) ?_
                try go_wp2
                go_roundg k4
                case measure => have := HJ2.out; have := HK2.out; have := HK3.out; have := HK4.out; omega
                case rel => exact ⟨(x10_4), (x26_3), (wrap64 (x26_3 + 1)), (by first | rfl | (simp; done) | (simp [*]; done)), (by first | rfl | (simp; done) | (simp [*]; done)), (by first | rfl | (simp; done) | (simp [*]; done)), H', ⟨by have := HJ2.out; have := HK2.out; have := HK3.out; have := HK4.out; omega⟩, ⟨by (with_reducible repeat (first | apply Kd.S_alloc | apply Kd.S_drewN | apply Kd.S_drew)); exact HO_5.out⟩, ⟨by repeat (first | (with_reducible first | exact HB.out | apply below_alloc | apply pw_below_drewN | apply below_drew1) | exact HB.out)⟩⟩
               ·rw [if_neg c22] at H
                have c22b0 : decide (x7_3 < x10_4) = false := decide_eq_false c22
                clear c22
                have H' := Aside0.mk H
                clear H
                try go_wp2
                have n0_ := Aside0.mk (Kd.S_drew HO_5.out)
                have n1_ := Aside0.mk (below_drew1 HB.out)
                clear HO_5
                clear HB
                have HO_5 := n0_
                have HB := n1_
                clear n0_ n1_
                refine start_ (n := 33) (S := fun w' => True) (ds := []) (tf 33 0) (by kernel_rfl) rfl rfl trivial (fun hHeld => ?_); refine with_tabW impl_MakeDelta.tab11 impl_MakeDelta.bits11 (fun HT_ HW_ => ?_)
                generalize wr.drew = w24 at HO_5 HB hHeld ⊢
                refine pA_ 0 29 ?_ (tf 33 1) rfl rfl (any_of HT_.out (by kernel_rfl)) (fun _ _ _ h => h) (by rfl) ?_ ?_ ?_ ?_
                (rotate_left; · intro w'; go_simp; with_reducible rfl)
                (rotate_left; · simp only [Act.put, sT, s0, sS, i64_w, i32_w]; rfl)
                refine pA_ 1 30 ?_ (tf 33 3) rfl rfl (any_of HT_.out (by kernel_rfl)) (fun _ _ _ h => h) (by rfl) ?_ ?_ ?_ ?_
                (rotate_left; · intro w'; go_simp; with_reducible rfl)
                (rotate_left; · simp only [Act.put, sT, s0, sS, i64_w, i32_w]; rfl)
                refine pA_ 2 31 ?_ (tf 33 7) rfl rfl (any_of HT_.out (by kernel_rfl)) (fun _ _ _ h => h) (by rfl) ?_ ?_ ?_ ?_
                (rotate_left; · intro w'; go_simp; with_reducible rfl)
                (rotate_left; · simp only [Act.put, sT, s0, sS, i64_w, i32_w]; rfl)
                refine pA_ 3 32 ?_ (tf 33 15) rfl rfl (any_of HT_.out (by kernel_rfl)) (fun _ _ _ h => h) (by rfl) ?_ ?_ ?_ ?_
                (rotate_left; · intro w'; go_simp; with_reducible rfl)
                (rotate_left; · simp only [Act.put, sT, s0, sS, i64_w, i32_w]; rfl)
                refine pA_ 4 33 ?_ (tf 33 31) rfl rfl (any_of HT_.out (by kernel_rfl)) (fun _ _ _ h => h) (by rfl) ?_ ?_ ?_ ?_
                (rotate_left; · intro w'; go_simp; with_reducible rfl)
                (rotate_left; · simp only [Act.put, sT, s0, sS, i64_w, i32_w]; rfl)
                refine pA_ 5 34 ?_ (tf 33 63) rfl rfl (any_of HT_.out (by kernel_rfl)) (fun _ _ _ h => h) (by rfl) ?_ ?_ ?_ ?_
                (rotate_left; · intro w'; go_simp; with_reducible rfl)
                (rotate_left; · simp only [Act.put, sT, s0, sS, i64_w, i32_w]; rfl)
                refine pA_ 6 35 ?_ (tf 33 127) rfl rfl (any_of HT_.out (by kernel_rfl)) (fun _ _ _ h => h) (by rfl) ?_ ?_ ?_ ?_
                (rotate_left; · intro w'; go_simp; with_reducible rfl)
                (rotate_left; · simp only [Act.put, sT, s0, sS, i64_w, i32_w]; rfl)
                refine pA_ 7 36 ?_ (tf 33 255) rfl rfl (any_of HT_.out (by kernel_rfl)) (fun _ _ _ h => h) (by rfl) ?_ ?_ ?_ ?_
                (rotate_left; · intro w'; go_simp; with_reducible rfl)
                (rotate_left; · simp only [Act.put, sT, s0, sS, i64_w, i32_w]; rfl)
                refine pA_ 8 37 ?_ (tf 33 511) rfl rfl (any_of HT_.out (by kernel_rfl)) (fun _ _ _ h => h) (by rfl) ?_ ?_ ?_ ?_
                (rotate_left; · intro w'; go_simp; with_reducible rfl)
                (rotate_left; · simp only [Act.put, sT, s0, sS, i64_w, i32_w]; rfl)
                refine pA_ 9 38 ?_ (tf 33 1023) rfl rfl (any_of HT_.out (by kernel_rfl)) (fun _ _ _ h => h) (by rfl) ?_ ?_ ?_ ?_
                (rotate_left; · intro w'; go_simp; with_reducible rfl)
                (rotate_left; · simp only [Act.put, sT, s0, sS, i64_w, i32_w]; rfl)
                refine pA_ 10 39 ?_ (tf 33 2047) rfl rfl (any_of HT_.out (by kernel_rfl)) (fun _ _ _ h => h) (by rfl) ?_ ?_ ?_ ?_
                (rotate_left; · intro w'; go_simp; with_reducible rfl)
                (rotate_left; · simp only [Act.put, sT, s0, sS, i64_w, i32_w]; rfl)
                refine pA_ 11 40 ?_ (tf 33 4095) rfl rfl (any_of HT_.out (by kernel_rfl)) (fun _ _ _ h => h) (by rfl) ?_ ?_ ?_ ?_
                (rotate_left; · intro w'; go_simp; with_reducible rfl)
                (rotate_left; · simp only [Act.put, sT, s0, sS, i64_w, i32_w]; rfl)
                refine pA_ 12 41 ?_ (tf 33 8191) rfl rfl (any_of HT_.out (by kernel_rfl)) (fun _ _ _ h => h) (by rfl) ?_ ?_ ?_ ?_
                (rotate_left; · intro w'; go_simp; with_reducible rfl)
                (rotate_left; · simp only [Act.put, sT, s0, sS, i64_w, i32_w]; rfl)
                refine pA_ 13 42 ?_ (tf 33 16383) rfl rfl (any_of HT_.out (by kernel_rfl)) (fun _ _ _ h => h) (by rfl) ?_ ?_ ?_ ?_
                (rotate_left; · intro w'; go_simp; with_reducible rfl)
                (rotate_left; · simp only [Act.put, sT, s0, sS, i64_w, i32_w]; rfl)
                refine pA_ 14 43 ?_ (tf 33 32767) rfl rfl (any_of HT_.out (by kernel_rfl)) (fun _ _ _ h => h) (by rfl) ?_ ?_ ?_ ?_
                (rotate_left; · intro w'; go_simp; with_reducible rfl)
                (rotate_left; · simp only [Act.put, sT, s0, sS, i64_w, i32_w]; rfl)
                refine pA_ 15 44 ?_ (tf 33 65535) rfl rfl (any_of HT_.out (by kernel_rfl)) (fun _ _ _ h => h) (by rfl) ?_ ?_ ?_ ?_
                (rotate_left; · intro w'; go_simp; with_reducible rfl)
                (rotate_left; · simp only [Act.put, sT, s0, sS, i64_w, i32_w]; rfl)
                refine pA_ 16 45 ?_ (tf 33 131071) rfl rfl (any_of HT_.out (by kernel_rfl)) (fun _ _ _ h => h) (by rfl) ?_ ?_ ?_ ?_
                (rotate_left; · intro w'; go_simp; with_reducible rfl)
                (rotate_left; · simp only [Act.put, sT, s0, sS, i64_w, i32_w]; rfl)
                refine pA_ 17 46 ?_ (tf 33 262143) rfl rfl (any_of HT_.out (by kernel_rfl)) (fun _ _ _ h => h) (by rfl) ?_ ?_ ?_ ?_
                (rotate_left; · intro w'; go_simp; with_reducible rfl)
                (rotate_left; · simp only [Act.put, sT, s0, sS, i64_w, i32_w]; rfl)
                refine pA_ 18 47 ?_ (tf 33 524287) rfl rfl (any_of HT_.out (by kernel_rfl)) (fun _ _ _ h => h) (by rfl) ?_ ?_ ?_ ?_
                (rotate_left; · intro w'; go_simp; with_reducible rfl)
                (rotate_left; · simp only [Act.put, sT, s0, sS, i64_w, i32_w]; rfl)
                refine pU_ 19 48 (tf 33 1048575) rfl rfl (any_of HT_.out (by kernel_rfl)) (fun _ _ _ h => h) (by rfl) ?_ ?_ ?_
                (rotate_left; · simp only [Act.put, sT, s0, sS, i64_w, i32_w]; rfl)
                refine pU_ 20 49 (tf 33 2097151) rfl rfl (any_of HT_.out (by kernel_rfl)) (fun _ _ _ h => h) (by rfl) ?_ ?_ ?_
                (rotate_left; · simp only [Act.put, sT, s0, sS, i64_w, i32_w]; rfl)
                refine pU_ 21 50 (tf 33 4194303) rfl rfl (any_of HT_.out (by kernel_rfl)) (fun _ _ _ h => h) (by rfl) ?_ ?_ ?_
                (rotate_left; · simp only [Act.put, sT, s0, sS, i64_w, i32_w]; rfl)
                refine pU_ 22 51 (tf 33 8388607) rfl rfl (any_of HT_.out (by kernel_rfl)) (fun _ _ _ h => h) (by rfl) ?_ ?_ ?_
                (rotate_left; · simp only [Act.put, sT, s0, sS, i64_w, i32_w]; rfl)
                refine pU_ 23 52 (tf 33 16777215) rfl rfl (any_of HT_.out (by kernel_rfl)) (fun _ _ _ h => h) (by rfl) ?_ ?_ ?_
                (rotate_left; · simp only [Act.put, sT, s0, sS, i64_w, i32_w]; rfl)
                refine pU_ 24 53 (tf 33 33554431) rfl rfl (any_of HT_.out (by kernel_rfl)) (fun _ _ _ h => h) (by rfl) ?_ ?_ ?_
                (rotate_left; · simp only [Act.put, sT, s0, sS, i64_w, i32_w]; rfl)
                refine pU_ 25 54 (tf 33 67108863) rfl rfl (any_of HT_.out (by kernel_rfl)) (fun _ _ _ h => h) (by rfl) ?_ ?_ ?_
                (rotate_left; · simp only [Act.put, sT, s0, sS, i64_w, i32_w]; rfl)
                refine pU_ 26 55 (tf 33 134217727) rfl rfl (any_of HT_.out (by kernel_rfl)) (fun _ _ _ h => h) (by rfl) ?_ ?_ ?_
                (rotate_left; · simp only [Act.put, sT, s0, sS, i64_w, i32_w]; rfl)
                refine pU_ 27 56 (tf 33 268435455) rfl rfl (any_of HT_.out (by kernel_rfl)) (fun _ _ _ h => h) (by rfl) ?_ ?_ ?_
                (rotate_left; · simp only [Act.put, sT, s0, sS, i64_w, i32_w]; rfl)
                refine pU_ 28 57 (tf 33 536870911) rfl rfl (any_of HT_.out (by kernel_rfl)) (fun _ _ _ h => h) (by rfl) ?_ ?_ ?_
                (rotate_left; · simp only [Act.put, sT, s0, sS, i64_w, i32_w]; rfl)
                refine pU_ 29 58 (tf 33 1073741823) rfl rfl (any_of HT_.out (by kernel_rfl)) (fun _ _ _ h => h) (by rfl) ?_ ?_ ?_
                (rotate_left; · simp only [Act.put, sT, s0, sS, i64_w, i32_w]; rfl)
                refine pU_ 30 59 (tf 33 2147483647) rfl rfl (any_of HT_.out (by kernel_rfl)) (fun _ _ _ h => h) (by rfl) ?_ ?_ ?_
                (rotate_left; · simp only [Act.put, sT, s0, sS, i64_w, i32_w]; rfl)
                refine pU_ 31 60 (tf 33 4294967295) rfl rfl (any_of HT_.out (by kernel_rfl)) (fun _ _ _ h => h) (by rfl) ?_ ?_ ?_
                (rotate_left; · simp only [Act.put, sT, s0, sS, i64_w, i32_w]; rfl)
                refine pA_ 32 61 ?_ (tf 33 8589934591) rfl rfl (any_of HT_.out (by kernel_rfl)) (fun _ _ _ h => h) (by rfl) ?_ ?_ ?_ ?_
                (rotate_left; · intro w'; go_simp; with_reducible rfl)
                (rotate_left; · simp only [Act.put, sT, s0, sS, i64_w, i32_w]; rfl)
                refine done_ (done_of HT_.out (by kernel_rfl)) ?_
                try go_wp2
                go_roundg k4
                case measure => have := HJ2.out; have := HK2.out; have := HK3.out; have := HK4.out; omega
                case rel => exact ⟨(x7_3), (x8_3), (wrap64 (x26_3 + 1)), (by first | rfl | (simp; done) | (simp [*]; done)), (by first | rfl | (simp; done) | (simp [*]; done)), (by first | rfl | (simp; done) | (simp [*]; done)), H', ⟨by have := HJ2.out; have := HK2.out; have := HK3.out; have := HK4.out; omega⟩, ⟨by (with_reducible repeat (first | apply Kd.S_alloc | apply Kd.S_drewN | apply Kd.S_drew)); exact HO_5.out⟩, ⟨by repeat (first | (with_reducible first | exact HB.out | apply below_alloc | apply pw_below_drewN | apply below_drew1) | exact HB.out)⟩⟩
             ·rw [if_neg c11] at H
              have c11b0 : decide ((wrap64 (x26_3 + x10_4)) < (l0.length : Int)) = false := decide_eq_false c11
              clear c11
              by_cases c25 : x10_4 > x7_3
              ·rw [if_pos c25] at H
               have c25b0 : decide (x7_3 < x10_4) = true := decide_eq_true c25
               clear c25
               have H' := Aside0.mk H
               clear H
               try go_wp2
               have n0_ := Aside0.mk (Kd.S_drew HO_5.out)
               have n1_ := Aside0.mk (below_drew1 HB.out)
               clear HO_5
               clear HB
               have HO_5 := n0_
               have HB := n1_
               clear n0_ n1_
               refine start_ (n := 33) (S := fun w' => True) (ds := []) (tf 33 0) (by kernel_rfl) rfl rfl trivial (fun hHeld => ?_); refine with_tabW impl_MakeDelta.tab11 impl_MakeDelta.bits11 (fun HT_ HW_ => ?_)
               generalize wr.drew = w26 at HO_5 HB hHeld ⊢
               refine pA_ 0 29 ?_ (tf 33 1) rfl rfl (any_of HT_.out (by kernel_rfl)) (fun _ _ _ h => h) (by rfl) ?_ ?_ ?_ ?_
               (rotate_left; · intro w'; go_simp; with_reducible rfl)
               (rotate_left; · simp only [Act.put, sT, s0, sS, i64_w, i32_w]; rfl)
               refine pA_ 1 30 ?_ (tf 33 3) rfl rfl (any_of HT_.out (by kernel_rfl)) (fun _ _ _ h => h) (by rfl) ?_ ?_ ?_ ?_
               (rotate_left; · intro w'; go_simp; with_reducible rfl)
               (rotate_left; · simp only [Act.put, sT, s0, sS, i64_w, i32_w]; rfl)
               refine pA_ 2 31 ?_ (tf 33 7) rfl rfl (any_of HT_.out (by kernel_rfl)) (fun _ _ _ h => h) (by rfl) ?_ ?_ ?_ ?_
               (rotate_left; · intro w'; go_simp; with_reducible rfl)
               (rotate_left; · simp only [Act.put, sT, s0, sS, i64_w, i32_w]; rfl)
               refine pA_ 3 32 ?_ (tf 33 15) rfl rfl (any_of HT_.out (by kernel_rfl)) (fun _ _ _ h => h) (by rfl) ?_ ?_ ?_ ?_
               (rotate_left; · intro w'; go_simp; with_reducible rfl)
               (rotate_left; · simp only [Act.put, sT, s0, sS, i64_w, i32_w]; rfl)
               refine pA_ 4 33 ?_ (tf 33 31) rfl rfl (any_of HT_.out (by kernel_rfl)) (fun _ _ _ h => h) (by rfl) ?_ ?_ ?_ ?_
               (rotate_left; · intro w'; go_simp; with_reducible rfl)
               (rotate_left; · simp only [Act.put, sT, s0, sS, i64_w, i32_w]; rfl)
               refine pA_ 5 34 ?_ (tf 33 63) rfl rfl (any_of HT_.out (by kernel_rfl)) (fun _ _ _ h => h) (by rfl) ?_ ?_ ?_ ?_
               (rotate_left; · intro w'; go_simp; with_reducible rfl)
               (rotate_left; · simp only [Act.put, sT, s0, sS, i64_w, i32_w]; rfl)
               refine pA_ 6 35 ?_ (tf 33 127) rfl rfl (any_of HT_.out (by kernel_rfl)) (fun _ _ _ h => h) (by rfl) ?_ ?_ ?_ ?_
               (rotate_left; · intro w'; go_simp; with_reducible rfl)
               (rotate_left; · simp only [Act.put, sT, s0, sS, i64_w, i32_w]; rfl)
               refine pA_ 7 36 ?_ (tf 33 255) rfl rfl (any_of HT_.out (by kernel_rfl)) (fun _ _ _ h => h) (by rfl) ?_ ?_ ?_ ?_
               (rotate_left; · intro w'; go_simp; with_reducible rfl)
               (rotate_left; · simp only [Act.put, sT, s0, sS, i64_w, i32_w]; rfl)
               refine pA_ 8 37 ?_ (tf 33 511) rfl rfl (any_of HT_.out (by kernel_rfl)) (fun _ _ _ h => h) (by rfl) ?_ ?_ ?_ ?_
               (rotate_left; · intro w'; go_simp; with_reducible rfl)
               (rotate_left; · simp only [Act.put, sT, s0, sS, i64_w, i32_w]; rfl)
               refine pA_ 9 38 ?_ (tf 33 1023) rfl rfl (any_of HT_.out (by kernel_rfl)) (fun _ _ _ h => h) (by rfl) ?_ ?_ ?_ ?_
               (rotate_left; · intro w'; go_simp; with_reducible rfl)
               (rotate_left; · simp only [Act.put, sT, s0, sS, i64_w, i32_w]; rfl)
               refine pA_ 10 39 ?_ (tf 33 2047) rfl rfl (any_of HT_.out (by kernel_rfl)) (fun _ _ _ h => h) (by rfl) ?_ ?_ ?_ ?_
               (rotate_left; · intro w'; go_simp; with_reducible rfl)
               (rotate_left; · simp only [Act.put, sT, s0, sS, i64_w, i32_w]; rfl)
               refine pU_ 11 40 (tf 33 4095) rfl rfl (any_of HT_.out (by kernel_rfl)) (fun _ _ _ h => h) (by rfl) ?_ ?_ ?_
               (rotate_left; · simp only [Act.put, sT, s0, sS, i64_w, i32_w]; rfl)
               refine pU_ 12 41 (tf 33 8191) rfl rfl (any_of HT_.out (by kernel_rfl)) (fun _ _ _ h => h) (by rfl) ?_ ?_ ?_
               (rotate_left; · simp only [Act.put, sT, s0, sS, i64_w, i32_w]; rfl)
               refine pU_ 13 42 (tf 33 16383) rfl rfl (any_of HT_.out (by kernel_rfl)) (fun _ _ _ h => h) (by rfl) ?_ ?_ ?_
               (rotate_left; · simp only [Act.put, sT, s0, sS, i64_w, i32_w]; rfl)
               refine pU_ 14 43 (tf 33 32767) rfl rfl (any_of HT_.out (by kernel_rfl)) (fun _ _ _ h => h) (by rfl) ?_ ?_ ?_
               (rotate_left; · simp only [Act.put, sT, s0, sS, i64_w, i32_w]; rfl)
               refine pU_ 15 44 (tf 33 65535) rfl rfl (any_of HT_.out (by kernel_rfl)) (fun _ _ _ h => h) (by rfl) ?_ ?_ ?_
               (rotate_left; · simp only [Act.put, sT, s0, sS, i64_w, i32_w]; rfl)
               refine pU_ 16 45 (tf 33 131071) rfl rfl (any_of HT_.out (by kernel_rfl)) (fun _ _ _ h => h) (by rfl) ?_ ?_ ?_
               (rotate_left; · simp only [Act.put, sT, s0, sS, i64_w, i32_w]; rfl)
               refine pA_ 17 46 ?_ (tf 33 262143) rfl rfl (any_of HT_.out (by kernel_rfl)) (fun _ _ _ h => h) (by rfl) ?_ ?_ ?_ ?_
               (rotate_left; · intro w'; go_simp; with_reducible rfl)
               (rotate_left; · simp only [Act.put, sT, s0, sS, i64_w, i32_w]; rfl)
               refine pA_ 18 47 ?_ (tf 33 524287) rfl rfl (any_of HT_.out (by kernel_rfl)) (fun _ _ _ h => h) (by rfl) ?_ ?_ ?_ ?_
               (rotate_left; · intro w'; go_simp; with_reducible rfl)
               (rotate_left; · simp only [Act.put, sT, s0, sS, i64_w, i32_w]; rfl)
               refine pU_ 19 48 (tf 33 1048575) rfl rfl (any_of HT_.out (by kernel_rfl)) (fun _ _ _ h => h) (by rfl) ?_ ?_ ?_
               (rotate_left; · simp only [Act.put, sT, s0, sS, i64_w, i32_w]; rfl)
               refine pU_ 20 49 (tf 33 2097151) rfl rfl (any_of HT_.out (by kernel_rfl)) (fun _ _ _ h => h) (by rfl) ?_ ?_ ?_
               (rotate_left; · simp only [Act.put, sT, s0, sS, i64_w, i32_w]; rfl)
               refine pU_ 21 50 (tf 33 4194303) rfl rfl (any_of HT_.out (by kernel_rfl)) (fun _ _ _ h => h) (by rfl) ?_ ?_ ?_
               (rotate_left; · simp only [Act.put, sT, s0, sS, i64_w, i32_w]; rfl)
               refine pU_ 22 51 (tf 33 8388607) rfl rfl (any_of HT_.out (by kernel_rfl)) (fun _ _ _ h => h) (by rfl) ?_ ?_ ?_
               (rotate_left; · simp only [Act.put, sT, s0, sS, i64_w, i32_w]; rfl)
               refine pU_ 23 52 (tf 33 16777215) rfl rfl (any_of HT_.out (by kernel_rfl)) (fun _ _ _ h => h) (by rfl) ?_ ?_ ?_
               (rotate_left; · simp only [Act.put, sT, s0, sS, i64_w, i32_w]; rfl)
               refine pU_ 24 53 (tf 33 33554431) rfl rfl (any_of HT_.out (by kernel_rfl)) (fun _ _ _ h => h) (by rfl) ?_ ?_ ?_
               (rotate_left; · simp only [Act.put, sT, s0, sS, i64_w, i32_w]; rfl)
               refine pU_ 25 54 (tf 33 67108863) rfl rfl (any_of HT_.out (by kernel_rfl)) (fun _ _ _ h => h) (by rfl) ?_ ?_ ?_
               (rotate_left; · simp only [Act.put, sT, s0, sS, i64_w, i32_w]; rfl)
               refine pU_ 26 55 (tf 33 134217727) rfl rfl (any_of HT_.out (by kernel_rfl)) (fun _ _ _ h => h) (by rfl) ?_ ?_ ?_
               (rotate_left; · simp only [Act.put, sT, s0, sS, i64_w, i32_w]; rfl)
               refine pU_ 27 56 (tf 33 268435455) rfl rfl (any_of HT_.out (by kernel_rfl)) (fun _ _ _ h => h) (by rfl) ?_ ?_ ?_
               (rotate_left; · simp only [Act.put, sT, s0, sS, i64_w, i32_w]; rfl)
               refine pU_ 28 57 (tf 33 536870911) rfl rfl (any_of HT_.out (by kernel_rfl)) (fun _ _ _ h => h) (by rfl) ?_ ?_ ?_
               (rotate_left; · simp only [Act.put, sT, s0, sS, i64_w, i32_w]; rfl)
               refine pU_ 29 58 (tf 33 1073741823) rfl rfl (any_of HT_.out (by kernel_rfl)) (fun _ _ _ h => h) (by rfl) ?_ ?_ ?_
               (rotate_left; · simp only [Act.put, sT, s0, sS, i64_w, i32_w]; rfl)
               refine pU_ 30 59 (tf 33 2147483647) rfl rfl (any_of HT_.out (by kernel_rfl)) (fun _ _ _ h => h) (by rfl) ?_ ?_ ?_
               (rotate_left; · simp only [Act.put, sT, s0, sS, i64_w, i32_w]; rfl)
               refine pU_ 31 60 (tf 33 4294967295) rfl rfl (any_of HT_.out (by kernel_rfl)) (fun _ _ _ h => h) (by rfl) ?_ ?_ ?_
               (rotate_left; · simp only [Act.put, sT, s0, sS, i64_w, i32_w]; rfl)
               refine pA_ 32 61 ?_ (tf 33 8589934591) rfl rfl (any_of HT_.out (by kernel_rfl)) (fun _ _ _ h => h) (by rfl) ?_ ?_ ?_ ?_
               (rotate_left; · intro w'; go_simp; with_reducible rfl)
               (rotate_left; · simp only [Act.put, sT, s0, sS, i64_w, i32_w]; rfl)
               refine done_ (done_of HT_.out (by kernel_rfl)) ?_
               try go_wp2
               go_roundg k4
               case measure => have := HJ2.out; have := HK2.out; have := HK3.out; have := HK4.out; omega
               case rel => exact ⟨(x10_4), (x26_3), (wrap64 (x26_3 + 1)), (by first | rfl | (simp; done) | (simp [*]; done)), (by first | rfl | (simp; done) | (simp [*]; done)), (by first | rfl | (simp; done) | (simp [*]; done)), H', ⟨by have := HJ2.out; have := HK2.out; have := HK3.out; have := HK4.out; omega⟩, ⟨by (with_reducible repeat (first | apply Kd.S_alloc | apply Kd.S_drewN | apply Kd.S_drew)); exact HO_5.out⟩, ⟨by repeat (first | (with_reducible first | exact HB.out | apply below_alloc | apply pw_below_drewN | apply below_drew1) | exact HB.out)⟩⟩
              ·rw [if_neg c25] at H
               have c25b0 : decide (x7_3 < x10_4) = false := decide_eq_false c25
               clear c25
               have H' := Aside0.mk H
               clear H
               try go_wp2
               have n0_ := Aside0.mk (Kd.S_drew HO_5.out)
               have n1_ := Aside0.mk (below_drew1 HB.out)
               clear HO_5
               clear HB
               have HO_5 := n0_
               have HB := n1_
               clear n0_ n1_
               refine start_ (n := 33) (S := fun w' => True) (ds := []) (tf 33 0) (by kernel_rfl) rfl rfl trivial (fun hHeld => ?_); refine with_tabW impl_MakeDelta.tab11 impl_MakeDelta.bits11 (fun HT_ HW_ => ?_)
               generalize wr.drew = w27 at HO_5 HB hHeld ⊢
               refine pA_ 0 29 ?_ (tf 33 1) rfl rfl (any_of HT_.out (by kernel_rfl)) (fun _ _ _ h => h) (by rfl) ?_ ?_ ?_ ?_
               (rotate_left; · intro w'; go_simp; with_reducible rfl)
               (rotate_left; · simp only [Act.put, sT, s0, sS, i64_w, i32_w]; rfl)
               refine pA_ 1 30 ?_ (tf 33 3) rfl rfl (any_of HT_.out (by kernel_rfl)) (fun _ _ _ h => h) (by rfl) ?_ ?_ ?_ ?_
               (rotate_left; · intro w'; go_simp; with_reducible rfl)
               (rotate_left; · simp only [Act.put, sT, s0, sS, i64_w, i32_w]; rfl)
               refine pA_ 2 31 ?_ (tf 33 7) rfl rfl (any_of HT_.out (by kernel_rfl)) (fun _ _ _ h => h) (by rfl) ?_ ?_ ?_ ?_
               (rotate_left; · intro w'; go_simp; with_reducible rfl)
               (rotate_left; · simp only [Act.put, sT, s0, sS, i64_w, i32_w]; rfl)
               refine pA_ 3 32 ?_ (tf 33 15) rfl rfl (any_of HT_.out (by kernel_rfl)) (fun _ _ _ h => h) (by rfl) ?_ ?_ ?_ ?_
               (rotate_left; · intro w'; go_simp; with_reducible rfl)
               (rotate_left; · simp only [Act.put, sT, s0, sS, i64_w, i32_w]; rfl)
               refine pA_ 4 33 ?_ (tf 33 31) rfl rfl (any_of HT_.out (by kernel_rfl)) (fun _ _ _ h => h) (by rfl) ?_ ?_ ?_ ?_
               (rotate_left; · intro w'; go_simp; with_reducible rfl)
               (rotate_left; · simp only [Act.put, sT, s0, sS, i64_w, i32_w]; rfl)
               refine pA_ 5 34 ?_ (tf 33 63) rfl rfl (any_of HT_.out (by kernel_rfl)) (fun _ _ _ h => h) (by rfl) ?_ ?_ ?_ ?_
               (rotate_left; · intro w'; go_simp; with_reducible rfl)
               (rotate_left; · simp only [Act.put, sT, s0, sS, i64_w, i32_w]; rfl)
               refine pA_ 6 35 ?_ (tf 33 127) rfl rfl (any_of HT_.out (by kernel_rfl)) (fun _ _ _ h => h) (by rfl) ?_ ?_ ?_ ?_
               (rotate_left; · intro w'; go_simp; with_reducible rfl)
               (rotate_left; · simp only [Act.put, sT, s0, sS, i64_w, i32_w]; rfl)
               refine pA_ 7 36 ?_ (tf 33 255) rfl rfl (any_of HT_.out (by kernel_rfl)) (fun _ _ _ h => h) (by rfl) ?_ ?_ ?_ ?_
               (rotate_left; · intro w'; go_simp; with_reducible rfl)
               (rotate_left; · simp only [Act.put, sT, s0, sS, i64_w, i32_w]; rfl)
               refine pA_ 8 37 ?_ (tf 33 511) rfl rfl (any_of HT_.out (by kernel_rfl)) (fun _ _ _ h => h) (by rfl) ?_ ?_ ?_ ?_
               (rotate_left; · intro w'; go_simp; with_reducible rfl)
               (rotate_left; · simp only [Act.put, sT, s0, sS, i64_w, i32_w]; rfl)
               refine pA_ 9 38 ?_ (tf 33 1023) rfl rfl (any_of HT_.out (by kernel_rfl)) (fun _ _ _ h => h) (by rfl) ?_ ?_ ?_ ?_
               (rotate_left; · intro w'; go_simp; with_reducible rfl)
               (rotate_left; · simp only [Act.put, sT, s0, sS, i64_w, i32_w]; rfl)
               refine pA_ 10 39 ?_ (tf 33 2047) rfl rfl (any_of HT_.out (by kernel_rfl)) (fun _ _ _ h => h) (by rfl) ?_ ?_ ?_ ?_
               (rotate_left; · intro w'; go_simp; with_reducible rfl)
               (rotate_left; · simp only [Act.put, sT, s0, sS, i64_w, i32_w]; rfl)
               refine pU_ 11 40 (tf 33 4095) rfl rfl (any_of HT_.out (by kernel_rfl)) (fun _ _ _ h => h) (by rfl) ?_ ?_ ?_
               (rotate_left; · simp only [Act.put, sT, s0, sS, i64_w, i32_w]; rfl)
               refine pU_ 12 41 (tf 33 8191) rfl rfl (any_of HT_.out (by kernel_rfl)) (fun _ _ _ h => h) (by rfl) ?_ ?_ ?_
               (rotate_left; · simp only [Act.put, sT, s0, sS, i64_w, i32_w]; rfl)
               refine pU_ 13 42 (tf 33 16383) rfl rfl (any_of HT_.out (by kernel_rfl)) (fun _ _ _ h => h) (by rfl) ?_ ?_ ?_
               (rotate_left; · simp only [Act.put, sT, s0, sS, i64_w, i32_w]; rfl)
               refine pU_ 14 43 (tf 33 32767) rfl rfl (any_of HT_.out (by kernel_rfl)) (fun _ _ _ h => h) (by rfl) ?_ ?_ ?_
               (rotate_left; · simp only [Act.put, sT, s0, sS, i64_w, i32_w]; rfl)
               refine pU_ 15 44 (tf 33 65535) rfl rfl (any_of HT_.out (by kernel_rfl)) (fun _ _ _ h => h) (by rfl) ?_ ?_ ?_
               (rotate_left; · simp only [Act.put, sT, s0, sS, i64_w, i32_w]; rfl)
               refine pU_ 16 45 (tf 33 131071) rfl rfl (any_of HT_.out (by kernel_rfl)) (fun _ _ _ h => h) (by rfl) ?_ ?_ ?_
               (rotate_left; · simp only [Act.put, sT, s0, sS, i64_w, i32_w]; rfl)
               refine pA_ 17 46 ?_ (tf 33 262143) rfl rfl (any_of HT_.out (by kernel_rfl)) (fun _ _ _ h => h) (by rfl) ?_ ?_ ?_ ?_
               (rotate_left; · intro w'; go_simp; with_reducible rfl)
               (rotate_left; · simp only [Act.put, sT, s0, sS, i64_w, i32_w]; rfl)
               refine pA_ 18 47 ?_ (tf 33 524287) rfl rfl (any_of HT_.out (by kernel_rfl)) (fun _ _ _ h => h) (by rfl) ?_ ?_ ?_ ?_
               (rotate_left; · intro w'; go_simp; with_reducible rfl)
               (rotate_left; · simp only [Act.put, sT, s0, sS, i64_w, i32_w]; rfl)
               refine pU_ 19 48 (tf 33 1048575) rfl rfl (any_of HT_.out (by kernel_rfl)) (fun _ _ _ h => h) (by rfl) ?_ ?_ ?_
               (rotate_left; · simp only [Act.put, sT, s0, sS, i64_w, i32_w]; rfl)
               refine pU_ 20 49 (tf 33 2097151) rfl rfl (any_of HT_.out (by kernel_rfl)) (fun _ _ _ h => h) (by rfl) ?_ ?_ ?_
               (rotate_left; · simp only [Act.put, sT, s0, sS, i64_w, i32_w]; rfl)
               refine pU_ 21 50 (tf 33 4194303) rfl rfl (any_of HT_.out (by kernel_rfl)) (fun _ _ _ h => h) (by rfl) ?_ ?_ ?_
               (rotate_left; · simp only [Act.put, sT, s0, sS, i64_w, i32_w]; rfl)
               refine pU_ 22 51 (tf 33 8388607) rfl rfl (any_of HT_.out (by kernel_rfl)) (fun _ _ _ h => h) (by rfl) ?_ ?_ ?_
               (rotate_left; · simp only [Act.put, sT, s0, sS, i64_w, i32_w]; rfl)
               refine pU_ 23 52 (tf 33 16777215) rfl rfl (any_of HT_.out (by kernel_rfl)) (fun _ _ _ h => h) (by rfl) ?_ ?_ ?_
               (rotate_left; · simp only [Act.put, sT, s0, sS, i64_w, i32_w]; rfl)
               refine pU_ 24 53 (tf 33 33554431) rfl rfl (any_of HT_.out (by kernel_rfl)) (fun _ _ _ h => h) (by rfl) ?_ ?_ ?_
               (rotate_left; · simp only [Act.put, sT, s0, sS, i64_w, i32_w]; rfl)
               refine pU_ 25 54 (tf 33 67108863) rfl rfl (any_of HT_.out (by kernel_rfl)) (fun _ _ _ h => h) (by rfl) ?_ ?_ ?_
               (rotate_left; · simp only [Act.put, sT, s0, sS, i64_w, i32_w]; rfl)
               refine pU_ 26 55 (tf 33 134217727) rfl rfl (any_of HT_.out (by kernel_rfl)) (fun _ _ _ h => h) (by rfl) ?_ ?_ ?_
               (rotate_left; · simp only [Act.put, sT, s0, sS, i64_w, i32_w]; rfl)
               refine pU_ 27 56 (tf 33 268435455) rfl rfl (any_of HT_.out (by kernel_rfl)) (fun _ _ _ h => h) (by rfl) ?_ ?_ ?_
               (rotate_left; · simp only [Act.put, sT, s0, sS, i64_w, i32_w]; rfl)
               refine pU_ 28 57 (tf 33 536870911) rfl rfl (any_of HT_.out (by kernel_rfl)) (fun _ _ _ h => h) (by rfl) ?_ ?_ ?_
               (rotate_left; · simp only [Act.put, sT, s0, sS, i64_w, i32_w]; rfl)
               refine pU_ 29 58 (tf 33 1073741823) rfl rfl (any_of HT_.out (by kernel_rfl)) (fun _ _ _ h => h) (by rfl) ?_ ?_ ?_
               (rotate_left; · simp only [Act.put, sT, s0, sS, i64_w, i32_w]; rfl)
               refine pU_ 30 59 (tf 33 2147483647) rfl rfl (any_of HT_.out (by kernel_rfl)) (fun _ _ _ h => h) (by rfl) ?_ ?_ ?_
               (rotate_left; · simp only [Act.put, sT, s0, sS, i64_w, i32_w]; rfl)
               refine pU_ 31 60 (tf 33 4294967295) rfl rfl (any_of HT_.out (by kernel_rfl)) (fun _ _ _ h => h) (by rfl) ?_ ?_ ?_
               (rotate_left; · simp only [Act.put, sT, s0, sS, i64_w, i32_w]; rfl)
               refine pA_ 32 61 ?_ (tf 33 8589934591) rfl rfl (any_of HT_.out (by kernel_rfl)) (fun _ _ _ h => h) (by rfl) ?_ ?_ ?_ ?_
               (rotate_left; · intro w'; go_simp; with_reducible rfl)
               (rotate_left; · simp only [Act.put, sT, s0, sS, i64_w, i32_w]; rfl)
               refine done_ (done_of HT_.out (by kernel_rfl)) ?_
               try go_wp2
               go_roundg k4
               case measure => have := HJ2.out; have := HK2.out; have := HK3.out; have := HK4.out; omega
               case rel => exact ⟨(x7_3), (x8_3), (wrap64 (x26_3 + 1)), (by first | rfl | (simp; done) | (simp [*]; done)), (by first | rfl | (simp; done) | (simp [*]; done)), (by first | rfl | (simp; done) | (simp [*]; done)), H', ⟨by have := HJ2.out; have := HK2.out; have := HK3.out; have := HK4.out; omega⟩, ⟨by (with_reducible repeat (first | apply Kd.S_alloc | apply Kd.S_drewN | apply Kd.S_drew)); exact HO_5.out⟩, ⟨by repeat (first | (with_reducible first | exact HB.out | apply below_alloc | apply pw_below_drewN | apply below_drew1) | exact HB.out)⟩⟩
            ·rw [if_neg c10] at H
             have c10b0 : decide (x10_4 < 1000) = false := decide_eq_false c10
             clear c10
             by_cases c28 : x10_4 > x7_3
             ·rw [if_pos c28] at H
              have c28b0 : decide (x7_3 < x10_4) = true := decide_eq_true c28
              clear c28
              have H' := Aside0.mk H
              clear H
              try go_wp2
              have n0_ := Aside0.mk (Kd.S_drew HO_5.out)
              have n1_ := Aside0.mk (below_drew1 HB.out)
              clear HO_5
              clear HB
              have HO_5 := n0_
              have HB := n1_
              clear n0_ n1_
              refine start_ (n := 33) (S := fun w' => True) (ds := []) (tf 33 0) (by kernel_rfl) rfl rfl trivial (fun hHeld => ?_); refine with_tabW impl_MakeDelta.tab11 impl_MakeDelta.bits11 (fun HT_ HW_ => ?_)
              generalize wr.drew = w29 at HO_5 HB hHeld ⊢
              refine pA_ 0 29 ?_ (tf 33 1) rfl rfl (any_of HT_.out (by kernel_rfl)) (fun _ _ _ h => h) (by rfl) ?_ ?_ ?_ ?_
              (rotate_left; · intro w'; go_simp; with_reducible rfl)
              (rotate_left; · simp only [Act.put, sT, s0, sS, i64_w, i32_w]; rfl)
              refine pA_ 1 30 ?_ (tf 33 3) rfl rfl (any_of HT_.out (by kernel_rfl)) (fun _ _ _ h => h) (by rfl) ?_ ?_ ?_ ?_
              (rotate_left; · intro w'; go_simp; with_reducible rfl)
              (rotate_left; · simp only [Act.put, sT, s0, sS, i64_w, i32_w]; rfl)
              refine pA_ 2 31 ?_ (tf 33 7) rfl rfl (any_of HT_.out (by kernel_rfl)) (fun _ _ _ h => h) (by rfl) ?_ ?_ ?_ ?_
              (rotate_left; · intro w'; go_simp; with_reducible rfl)
              (rotate_left; · simp only [Act.put, sT, s0, sS, i64_w, i32_w]; rfl)
              refine pU_ 3 32 (tf 33 15) rfl rfl (any_of HT_.out (by kernel_rfl)) (fun _ _ _ h => h) (by rfl) ?_ ?_ ?_
              (rotate_left; · simp only [Act.put, sT, s0, sS, i64_w, i32_w]; rfl)
              refine pU_ 4 33 (tf 33 31) rfl rfl (any_of HT_.out (by kernel_rfl)) (fun _ _ _ h => h) (by rfl) ?_ ?_ ?_
              (rotate_left; · simp only [Act.put, sT, s0, sS, i64_w, i32_w]; rfl)
              refine pU_ 5 34 (tf 33 63) rfl rfl (any_of HT_.out (by kernel_rfl)) (fun _ _ _ h => h) (by rfl) ?_ ?_ ?_
              (rotate_left; · simp only [Act.put, sT, s0, sS, i64_w, i32_w]; rfl)
              refine pU_ 6 35 (tf 33 127) rfl rfl (any_of HT_.out (by kernel_rfl)) (fun _ _ _ h => h) (by rfl) ?_ ?_ ?_
              (rotate_left; · simp only [Act.put, sT, s0, sS, i64_w, i32_w]; rfl)
              refine pU_ 7 36 (tf 33 255) rfl rfl (any_of HT_.out (by kernel_rfl)) (fun _ _ _ h => h) (by rfl) ?_ ?_ ?_
              (rotate_left; · simp only [Act.put, sT, s0, sS, i64_w, i32_w]; rfl)
              refine pU_ 8 37 (tf 33 511) rfl rfl (any_of HT_.out (by kernel_rfl)) (fun _ _ _ h => h) (by rfl) ?_ ?_ ?_
              (rotate_left; · simp only [Act.put, sT, s0, sS, i64_w, i32_w]; rfl)
              refine pA_ 9 38 ?_ (tf 33 1023) rfl rfl (any_of HT_.out (by kernel_rfl)) (fun _ _ _ h => h) (by rfl) ?_ ?_ ?_ ?_
              (rotate_left; · intro w'; go_simp; with_reducible rfl)
              (rotate_left; · simp only [Act.put, sT, s0, sS, i64_w, i32_w]; rfl)
              refine pA_ 10 39 ?_ (tf 33 2047) rfl rfl (any_of HT_.out (by kernel_rfl)) (fun _ _ _ h => h) (by rfl) ?_ ?_ ?_ ?_
              (rotate_left; · intro w'; go_simp; with_reducible rfl)
              (rotate_left; · simp only [Act.put, sT, s0, sS, i64_w, i32_w]; rfl)
              refine pU_ 11 40 (tf 33 4095) rfl rfl (any_of HT_.out (by kernel_rfl)) (fun _ _ _ h => h) (by rfl) ?_ ?_ ?_
              (rotate_left; · simp only [Act.put, sT, s0, sS, i64_w, i32_w]; rfl)
              refine pU_ 12 41 (tf 33 8191) rfl rfl (any_of HT_.out (by kernel_rfl)) (fun _ _ _ h => h) (by rfl) ?_ ?_ ?_
              (rotate_left; · simp only [Act.put, sT, s0, sS, i64_w, i32_w]; rfl)
              refine pU_ 13 42 (tf 33 16383) rfl rfl (any_of HT_.out (by kernel_rfl)) (fun _ _ _ h => h) (by rfl) ?_ ?_ ?_
              (rotate_left; · simp only [Act.put, sT, s0, sS, i64_w, i32_w]; rfl)
              refine pU_ 14 43 (tf 33 32767) rfl rfl (any_of HT_.out (by kernel_rfl)) (fun _ _ _ h => h) (by rfl) ?_ ?_ ?_
              (rotate_left; · simp only [Act.put, sT, s0, sS, i64_w, i32_w]; rfl)
              refine pU_ 15 44 (tf 33 65535) rfl rfl (any_of HT_.out (by kernel_rfl)) (fun _ _ _ h => h) (by rfl) ?_ ?_ ?_
              (rotate_left; · simp only [Act.put, sT, s0, sS, i64_w, i32_w]; rfl)
              refine pU_ 16 45 (tf 33 131071) rfl rfl (any_of HT_.out (by kernel_rfl)) (fun _ _ _ h => h) (by rfl) ?_ ?_ ?_
              (rotate_left; · simp only [Act.put, sT, s0, sS, i64_w, i32_w]; rfl)
              refine pA_ 17 46 ?_ (tf 33 262143) rfl rfl (any_of HT_.out (by kernel_rfl)) (fun _ _ _ h => h) (by rfl) ?_ ?_ ?_ ?_
              (rotate_left; · intro w'; go_simp; with_reducible rfl)
              (rotate_left; · simp only [Act.put, sT, s0, sS, i64_w, i32_w]; rfl)
              refine pA_ 18 47 ?_ (tf 33 524287) rfl rfl (any_of HT_.out (by kernel_rfl)) (fun _ _ _ h => h) (by rfl) ?_ ?_ ?_ ?_
              (rotate_left; · intro w'; go_simp; with_reducible rfl)
              (rotate_left; · simp only [Act.put, sT, s0, sS, i64_w, i32_w]; rfl)
              refine pU_ 19 48 (tf 33 1048575) rfl rfl (any_of HT_.out (by kernel_rfl)) (fun _ _ _ h => h) (by rfl) ?_ ?_ ?_
              (rotate_left; · simp only [Act.put, sT, s0, sS, i64_w, i32_w]; rfl)
              refine pU_ 20 49 (tf 33 2097151) rfl rfl (any_of HT_.out (by kernel_rfl)) (fun _ _ _ h => h) (by rfl) ?_ ?_ ?_
              (rotate_left; · simp only [Act.put, sT, s0, sS, i64_w, i32_w]; rfl)
              refine pU_ 21 50 (tf 33 4194303) rfl rfl (any_of HT_.out (by kernel_rfl)) (fun _ _ _ h => h) (by rfl) ?_ ?_ ?_
              (rotate_left; · simp only [Act.put, sT, s0, sS, i64_w, i32_w]; rfl)
              refine pU_ 22 51 (tf 33 8388607) rfl rfl (any_of HT_.out (by kernel_rfl)) (fun _ _ _ h => h) (by rfl) ?_ ?_ ?_
              (rotate_left; · simp only [Act.put, sT, s0, sS, i64_w, i32_w]; rfl)
              refine pU_ 23 52 (tf 33 16777215) rfl rfl (any_of HT_.out (by kernel_rfl)) (fun _ _ _ h => h) (by rfl) ?_ ?_ ?_
              (rotate_left; · simp only [Act.put, sT, s0, sS, i64_w, i32_w]; rfl)
              refine pU_ 24 53 (tf 33 33554431) rfl rfl (any_of HT_.out (by kernel_rfl)) (fun _ _ _ h => h) (by rfl) ?_ ?_ ?_
              (rotate_left; · simp only [Act.put, sT, s0, sS, i64_w, i32_w]; rfl)
              refine pU_ 25 54 (tf 33 67108863) rfl rfl (any_of HT_.out (by kernel_rfl)) (fun _ _ _ h => h) (by rfl) ?_ ?_ ?_
              (rotate_left; · simp only [Act.put, sT, s0, sS, i64_w, i32_w]; rfl)
              refine pU_ 26 55 (tf 33 134217727) rfl rfl (any_of HT_.out (by kernel_rfl)) (fun _ _ _ h => h) (by rfl) ?_ ?_ ?_
              (rotate_left; · simp only [Act.put, sT, s0, sS, i64_w, i32_w]; rfl)
              refine pU_ 27 56 (tf 33 268435455) rfl rfl (any_of HT_.out (by kernel_rfl)) (fun _ _ _ h => h) (by rfl) ?_ ?_ ?_
              (rotate_left; · simp only [Act.put, sT, s0, sS, i64_w, i32_w]; rfl)
              refine pU_ 28 57 (tf 33 536870911) rfl rfl (any_of HT_.out (by kernel_rfl)) (fun _ _ _ h => h) (by rfl) ?_ ?_ ?_
              (rotate_left; · simp only [Act.put, sT, s0, sS, i64_w, i32_w]; rfl)
              refine pU_ 29 58 (tf 33 1073741823) rfl rfl (any_of HT_.out (by kernel_rfl)) (fun _ _ _ h => h) (by rfl) ?_ ?_ ?_
              (rotate_left; · simp only [Act.put, sT, s0, sS, i64_w, i32_w]; rfl)
              refine pU_ 30 59 (tf 33 2147483647) rfl rfl (any_of HT_.out (by kernel_rfl)) (fun _ _ _ h => h) (by rfl) ?_ ?_ ?_
              (rotate_left; · simp only [Act.put, sT, s0, sS, i64_w, i32_w]; rfl)
              refine pU_ 31 60 (tf 33 4294967295) rfl rfl (any_of HT_.out (by kernel_rfl)) (fun _ _ _ h => h) (by rfl) ?_ ?_ ?_
              (rotate_left; · simp only [Act.put, sT, s0, sS, i64_w, i32_w]; rfl)
              refine pA_ 32 61 ?_ (tf 33 8589934591) rfl rfl (any_of HT_.out (by kernel_rfl)) (fun _ _ _ h => h) (by rfl) ?_ ?_ ?_ ?_
              (rotate_left; · intro w'; go_simp; with_reducible rfl)
              (rotate_left; · simp only [Act.put, sT, s0, sS, i64_w, i32_w]; rfl)
              refine done_ (done_of HT_.out (by kernel_rfl)) ?_
              try go_wp2
              go_roundg k4
              case measure => have := HJ2.out; have := HK2.out; have := HK3.out; have := HK4.out; omega
              case rel => exact ⟨(x10_4), (x26_3), (wrap64 (x26_3 + 1)), (by first | rfl | (simp; done) | (simp [*]; done)), (by first | rfl | (simp; done) | (simp [*]; done)), (by first | rfl | (simp; done) | (simp [*]; done)), H', ⟨by have := HJ2.out; have := HK2.out; have := HK3.out; have := HK4.out; omega⟩, ⟨by (with_reducible repeat (first | apply Kd.S_alloc | apply Kd.S_drewN | apply Kd.S_drew)); exact HO_5.out⟩, ⟨by repeat (first | (with_reducible first | exact HB.out | apply below_alloc | apply pw_below_drewN | apply below_drew1) | exact HB.out)⟩⟩
             ·rw [if_neg c28] at H
              have c28b0 : decide (x7_3 < x10_4) = false := decide_eq_false c28
              clear c28
              have H' := Aside0.mk H
              clear H
              try go_wp2
              have n0_ := Aside0.mk (Kd.S_drew HO_5.out)
              have n1_ := Aside0.mk (below_drew1 HB.out)
              clear HO_5
              clear HB
              have HO_5 := n0_
              have HB := n1_
              clear n0_ n1_
              refine start_ (n := 33) (S := fun w' => True) (ds := []) (tf 33 0) (by kernel_rfl) rfl rfl trivial (fun hHeld => ?_); refine with_tabW impl_MakeDelta.tab11 impl_MakeDelta.bits11 (fun HT_ HW_ => ?_)
              generalize wr.drew = w30 at HO_5 HB hHeld ⊢
              refine pA_ 0 29 ?_ (tf 33 1) rfl rfl (any_of HT_.out (by kernel_rfl)) (fun _ _ _ h => h) (by rfl) ?_ ?_ ?_ ?_
              (rotate_left; · intro w'; go_simp; with_reducible rfl)
              (rotate_left; · simp only [Act.put, sT, s0, sS, i64_w, i32_w]; rfl)
              refine pA_ 1 30 ?_ (tf 33 3) rfl rfl (any_of HT_.out (by kernel_rfl)) (fun _ _ _ h => h) (by rfl) ?_ ?_ ?_ ?_
              (rotate_left; · intro w'; go_simp; with_reducible rfl)
              (rotate_left; · simp only [Act.put, sT, s0, sS, i64_w, i32_w]; rfl)
              refine pA_ 2 31 ?_ (tf 33 7) rfl rfl (any_of HT_.out (by kernel_rfl)) (fun _ _ _ h => h) (by rfl) ?_ ?_ ?_ ?_
              (rotate_left; · intro w'; go_simp; with_reducible rfl)
              (rotate_left; · simp only [Act.put, sT, s0, sS, i64_w, i32_w]; rfl)
              refine pU_ 3 32 (tf 33 15) rfl rfl (any_of HT_.out (by kernel_rfl)) (fun _ _ _ h => h) (by rfl) ?_ ?_ ?_
              (rotate_left; · simp only [Act.put, sT, s0, sS, i64_w, i32_w]; rfl)
              refine pU_ 4 33 (tf 33 31) rfl rfl (any_of HT_.out (by kernel_rfl)) (fun _ _ _ h => h) (by rfl) ?_ ?_ ?_
              (rotate_left; · simp only [Act.put, sT, s0, sS, i64_w, i32_w]; rfl)
              refine pU_ 5 34 (tf 33 63) rfl rfl (any_of HT_.out (by kernel_rfl)) (fun _ _ _ h => h) (by rfl) ?_ ?_ ?_
              (rotate_left; · simp only [Act.put, sT, s0, sS, i64_w, i32_w]; rfl)
              refine pU_ 6 35 (tf 33 127) rfl rfl (any_of HT_.out (by kernel_rfl)) (fun _ _ _ h => h) (by rfl) ?_ ?_ ?_
              (rotate_left; · simp only [Act.put, sT, s0, sS, i64_w, i32_w]; rfl)
              refine pU_ 7 36 (tf 33 255) rfl rfl (any_of HT_.out (by kernel_rfl)) (fun _ _ _ h => h) (by rfl) ?_ ?_ ?_
              (rotate_left; · simp only [Act.put, sT, s0, sS, i64_w, i32_w]; rfl)
              refine pU_ 8 37 (tf 33 511) rfl rfl (any_of HT_.out (by kernel_rfl)) (fun _ _ _ h => h) (by rfl) ?_ ?_ ?_
              (rotate_left; · simp only [Act.put, sT, s0, sS, i64_w, i32_w]; rfl)
              refine pA_ 9 38 ?_ (tf 33 1023) rfl rfl (any_of HT_.out (by kernel_rfl)) (fun _ _ _ h => h) (by rfl) ?_ ?_ ?_ ?_
              (rotate_left; · intro w'; go_simp; with_reducible rfl)
              (rotate_left; · simp only [Act.put, sT, s0, sS, i64_w, i32_w]; rfl)
              refine pA_ 10 39 ?_ (tf 33 2047) rfl rfl (any_of HT_.out (by kernel_rfl)) (fun _ _ _ h => h) (by rfl) ?_ ?_ ?_ ?_
              (rotate_left; · intro w'; go_simp; with_reducible rfl)
              (rotate_left; · simp only [Act.put, sT, s0, sS, i64_w, i32_w]; rfl)
              refine pU_ 11 40 (tf 33 4095) rfl rfl (any_of HT_.out (by kernel_rfl)) (fun _ _ _ h => h) (by rfl) ?_ ?_ ?_
              (rotate_left; · simp only [Act.put, sT, s0, sS, i64_w, i32_w]; rfl)
              refine pU_ 12 41 (tf 33 8191) rfl rfl (any_of HT_.out (by kernel_rfl)) (fun _ _ _ h => h) (by rfl) ?_ ?_ ?_
              (rotate_left; · simp only [Act.put, sT, s0, sS, i64_w, i32_w]; rfl)
              refine pU_ 13 42 (tf 33 16383) rfl rfl (any_of HT_.out (by kernel_rfl)) (fun _ _ _ h => h) (by rfl) ?_ ?_ ?_
              (rotate_left; · simp only [Act.put, sT, s0, sS, i64_w, i32_w]; rfl)
              refine pU_ 14 43 (tf 33 32767) rfl rfl (any_of HT_.out (by kernel_rfl)) (fun _ _ _ h => h) (by rfl) ?_ ?_ ?_
              (rotate_left; · simp only [Act.put, sT, s0, sS, i64_w, i32_w]; rfl)
              refine pU_ 15 44 (tf 33 65535) rfl rfl (any_of HT_.out (by kernel_rfl)) (fun _ _ _ h => h) (by rfl) ?_ ?_ ?_
              (rotate_left; · simp only [Act.put, sT, s0, sS, i64_w, i32_w]; rfl)
              refine pU_ 16 45 (tf 33 131071) rfl rfl (any_of HT_.out (by kernel_rfl)) (fun _ _ _ h => h) (by rfl) ?_ ?_ ?_
              (rotate_left; · simp only [Act.put, sT, s0, sS, i64_w, i32_w]; rfl)
              refine pA_ 17 46 ?_ (tf 33 262143) rfl rfl (any_of HT_.out (by kernel_rfl)) (fun _ _ _ h => h) (by rfl) ?_ ?_ ?_ ?_
              (rotate_left; · intro w'; go_simp; with_reducible rfl)
              (rotate_left; · simp only [Act.put, sT, s0, sS, i64_w, i32_w]; rfl)
              refine pA_ 18 47 ?_ (tf 33 524287) rfl rfl (any_of HT_.out (by kernel_rfl)) (fun _ _ _ h => h) (by rfl) ?_ ?_ ?_ ?_
              (rotate_left; · intro w'; go_simp; with_reducible rfl)
              (rotate_left; · simp only [Act.put, sT, s0, sS, i64_w, i32_w]; rfl)
              refine pU_ 19 48 (tf 33 1048575) rfl rfl (any_of HT_.out (by kernel_rfl)) (fun _ _ _ h => h) (by rfl) ?_ ?_ ?_
              (rotate_left; · simp only [Act.put, sT, s0, sS, i64_w, i32_w]; rfl)
              refine pU_ 20 49 (tf 33 2097151) rfl rfl (any_of HT_.out (by kernel_rfl)) (fun _ _ _ h => h) (by rfl) ?_ ?_ ?_
              (rotate_left; · simp only [Act.put, sT, s0, sS, i64_w, i32_w]; rfl)
              refine pU_ 21 50 (tf 33 4194303) rfl rfl (any_of HT_.out (by kernel_rfl)) (fun _ _ _ h => h) (by rfl) ?_ ?_ ?_
              (rotate_left; · simp only [Act.put, sT, s0, sS, i64_w, i32_w]; rfl)
              refine pU_ 22 51 (tf 33 8388607) rfl rfl (any_of HT_.out (by kernel_rfl)) (fun _ _ _ h => h) (by rfl) ?_ ?_ ?_
              (rotate_left; · simp only [Act.put, sT, s0, sS, i64_w, i32_w]; rfl)
              refine pU_ 23 52 (tf 33 16777215) rfl rfl (any_of HT_.out (by kernel_rfl)) (fun _ _ _ h => h) (by rfl) ?_ ?_ ?_
              (rotate_left; · simp only [Act.put, sT, s0, sS, i64_w, i32_w]; rfl)
              refine pU_ 24 53 (tf 33 33554431) rfl rfl (any_of HT_.out (by kernel_rfl)) (fun _ _ _ h => h) (by rfl) ?_ ?_ ?_
              (rotate_left; · simp only [Act.put, sT, s0, sS, i64_w, i32_w]; rfl)
              refine pU_ 25 54 (tf 33 67108863) rfl rfl (any_of HT_.out (by kernel_rfl)) (fun _ _ _ h => h) (by rfl) ?_ ?_ ?_
              (rotate_left; · simp only [Act.put, sT, s0, sS, i64_w, i32_w]; rfl)
              refine pU_ 26 55 (tf 33 134217727) rfl rfl (any_of HT_.out (by kernel_rfl)) (fun _ _ _ h => h) (by rfl) ?_ ?_ ?_
              (rotate_left; · simp only [Act.put, sT, s0, sS, i64_w, i32_w]; rfl)
              refine pU_ 27 56 (tf 33 268435455) rfl rfl (any_of HT_.out (by kernel_rfl)) (fun _ _ _ h => h) (by rfl) ?_ ?_ ?_
              (rotate_left; · simp only [Act.put, sT, s0, sS, i64_w, i32_w]; rfl)
              refine pU_ 28 57 (tf 33 536870911) rfl rfl (any_of HT_.out (by kernel_rfl)) (fun _ _ _ h => h) (by rfl) ?_ ?_ ?_
              (rotate_left; · simp only [Act.put, sT, s0, sS, i64_w, i32_w]; rfl)
              refine pU_ 29 58 (tf 33 1073741823) rfl rfl (any_of HT_.out (by kernel_rfl)) (fun _ _ _ h => h) (by rfl) ?_ ?_ ?_
              (rotate_left; · simp only [Act.put, sT, s0, sS, i64_w, i32_w]; rfl)
              refine pU_ 30 59 (tf 33 2147483647) rfl rfl (any_of HT_.out (by kernel_rfl)) (fun _ _ _ h => h) (by rfl) ?_ ?_ ?_
              (rotate_left; · simp only [Act.put, sT, s0, sS, i64_w, i32_w]; rfl)
              refine pU_ 31 60 (tf 33 4294967295) rfl rfl (any_of HT_.out (by kernel_rfl)) (fun _ _ _ h => h) (by rfl) ?_ ?_ ?_
              (rotate_left; · simp only [Act.put, sT, s0, sS, i64_w, i32_w]; rfl)
              refine pA_ 32 61 ?_ (tf 33 8589934591) rfl rfl (any_of HT_.out (by kernel_rfl)) (fun _ _ _ h => h) (by rfl) ?_ ?_ ?_ ?_
              (rotate_left; · intro w'; go_simp; with_reducible rfl)
              (rotate_left; · simp only [Act.put, sT, s0, sS, i64_w, i32_w]; rfl)
              refine done_ (done_of HT_.out (by kernel_rfl)) ?_
              try go_wp2
              go_roundg k4
              case measure => have := HJ2.out; have := HK2.out; have := HK3.out; have := HK4.out; omega
              case rel => exact ⟨(x7_3), (x8_3), (wrap64 (x26_3 + 1)), (by first | rfl | (simp; done) | (simp [*]; done)), (by first | rfl | (simp; done) | (simp [*]; done)), (by first | rfl | (simp; done) | (simp [*]; done)), H', ⟨by have := HJ2.out; have := HK2.out; have := HK3.out; have := HK4.out; omega⟩, ⟨by (with_reducible repeat (first | apply Kd.S_alloc | apply Kd.S_drewN | apply Kd.S_drew)); exact HO_5.out⟩, ⟨by repeat (first | (with_reducible first | exact HB.out | apply below_alloc | apply pw_below_drewN | apply below_drew1) | exact HB.out)⟩⟩
         ·rw [if_neg c9] at H
          have c9b0 : decide (x26_3 < (l0.length : Int)) = false := decide_eq_false c9
          clear c9
          by_cases c31 : x7_3 ≥ 6
          ·rw [if_pos c31] at H
           have c31b0 : decide (6 ≤ x7_3) = true := decide_eq_true c31
           clear c31
           by_cases c32 : x5_2.length < 2932031007402
           ·rw [if_pos c32] at H
            have LMc32 := Aside0.mk c32
            clear c32
            obtain ⟨y194, hy194⟩ : ∃ y_ : List (S62), y_ = (x5_2 ++ [(⟨1, x8_3, x7_3, ([] : List Int)⟩ : S62)]) := ⟨_, rfl⟩
            replace H : (impl_MakeDelta.l0 k3 l0 l1 y194 (wrap64 (x6_2 + x7_3))) = some r := by first | (rw [hy194]; with_reducible exact H) | (have H2_ := (Option.bind_some _ _).symm.trans H; rw [hy194]; with_reducible exact H2_) | (have H2_ := (Option.bind_some _ _).symm.trans H; with_reducible exact H2_) | with_reducible exact H | (rw [hy194]; exact H) | exact H
            have Ny194 := Aside0.mk hy194
            clear hy194
            have H' := Aside0.mk H
            clear H
            go_wp2_with (first | ((with_reducible refine gate_builtin (b := .append) (xs := #[.tmp 72, .tmp 76]) rfl ?_); (try (refine gate_guard (by rfl) ?_; dsimp only)); at_builtin; refine Kd.S_append k62 (w0 := w) w.heap.size rfl (.tmp 72) (.tmp 76) 23 62 (.agg #[(.int .i64 0), (.int .i64 0), (.int .i64 0), (.slice none 0 0)]) 48 rfl Try.underlying23 info62 rfl (by decide) (by omega) u5 x5_2 (⟨1, x8_3, x7_3, ([] : List Int)⟩ : S62) [.int .i64 1, .int .i64 x8_3, .int .i64 x7_3, .slice none 0 0] (fun _ => True) (fun _ => False) rfl rfl ?aP (fun k_ hk_ => hk_.elim) ?aF ?aO ?aB ?aS ?aL ?_; (case aP => exact k62_mkM _ _ _ (⟨1, x8_3, x7_3, ([] : List Int)⟩ : S62) (Kd.R_nil _ _ _ _ _)); (case aB => exact (by repeat (first | (with_reducible first | exact HB.out | apply below_alloc | apply pw_below_drewN | apply below_drew1) | exact HB.out))); (case aF => exact (fun _ _ => trivial)); (case aO => exact (by (with_reducible repeat (first | apply Kd.S_alloc | apply Kd.S_drewN | apply Kd.S_drew)); exact Kd.S_mono HO_5.out (fun k_ hk => ⟨trivial, fun e_ => e_⟩))); (case aS => exact (below_size (by repeat (first | (with_reducible first | exact HB.out | apply below_alloc | apply pw_below_drewN | apply below_drew1) | exact HB.out)))); (case aL => have := LMc32.out; omega); intro v195 w33 ho hb hg hat; rw [← Ny194.out] at ho; have n0_ := Aside0.mk (hb); have n1_ := Aside0.mk (ho); clear HB; clear HO_5; have HB := n0_; have HO196 := n1_; clear n0_ n1_; clear ho hb hg hat))
            go_roundg k3
            case measure => have := HJ2.out; have := HK2.out; have := HK3.out; omega
            case rel => exact ⟨(y194), (wrap64 (x6_2 + x7_3)), (by first | rfl | (simp; done) | (simp [*]; done)), H', ⟨by have := HJ2.out; have := HK2.out; have := HK3.out; omega⟩, ⟨by (with_reducible repeat (first | apply Kd.S_alloc | apply Kd.S_drewN | apply Kd.S_drew)); exact HO196.out⟩, ⟨by repeat (first | (with_reducible first | exact HB.out | apply below_alloc | apply pw_below_drewN | apply below_drew1) | exact HB.out)⟩⟩
           ·rw [if_neg c32] at H
            exact absurd H (by simp)
          ·rw [if_neg c31] at H
           have c31b0 : decide (6 ≤ x7_3) = false := decide_eq_false c31
           clear c31
           by_cases c34 : (x5_2.length : Int) > 0
           ·rw [if_pos c34] at H
            have c34b0 : decide (0 < (x5_2.length : Int)) = true := decide_eq_true c34
            have c34b1 : decide (0 < x5_2.length) = true := decide_eq_true (by omega)
            clear c34
            obtain ⟨ji35, hji35⟩ : ∃ j_ : Int, (wrap64 ((x5_2.length : Int) - 1)) = j_ := ⟨_, rfl⟩
            replace H : (if 0 ≤ (ji35) then (if (ji35) < (x5_2.length : Int) then (if ((rd_T62 x5_2 (ji35)).f0) = 2 then (if 0 ≤ x6_2 then (if x6_2 < (l1.length : Int) then (if ((rd_T62 x5_2 (ji35)).f3).length < 140737488355328 then (impl_MakeDelta.l0 k3 l0 l1 (x5_2.set ((ji35) : Int).toNat (⟨(rd_T62 x5_2 (ji35)).f0, (rd_T62 x5_2 (ji35)).f1, (rd_T62 x5_2 (ji35)).f2, (((rd_T62 x5_2 (ji35)).f3) ++ [rd l1 x6_2])⟩ : S62)) (wrap64 (x6_2 + 1))) else (none)) else (none)) else (none)) else (if 0 ≤ x6_2 then (if x6_2 < (l1.length : Int) then (if x5_2.length < 2932031007402 then (impl_MakeDelta.l0 k3 l0 l1 (x5_2 ++ [(⟨2, 0, 0, (([rd l1 x6_2] : List Int))⟩ : S62)]) (wrap64 (x6_2 + 1))) else (none)) else (none)) else (none))) else (none)) else (none)) = some r := by first | (rw [hji35] at H; exact H) | (simp only [hji35] at H ⊢; exact H)
            have hji35w : (IntKind.i64.wrap ((x5_2.length : Int) - 1)) = ji35 := (i64_w _).trans hji35
            by_cases c36 : 0 ≤ (ji35)
            ·rw [if_pos c36] at H
             have c36b0 : decide (0 ≤ (ji35)) = true := decide_eq_true c36
             clear c36
             by_cases c37 : (ji35) < (x5_2.length : Int)
             ·rw [if_pos c37] at H
              have c37b0 : decide ((ji35) < (x5_2.length : Int)) = true := decide_eq_true c37
              clear c37
              by_cases c38 : ((rd_T62 x5_2 (ji35)).f0) = 2
              ·rw [if_pos c38] at H
               have c38b0 : (((rd_T62 x5_2 (ji35)).f0) == 2) = true := beq_iff_eq.mpr c38
               have c38b1 : (((rd_T62 x5_2 (ji35)).f0) != 2) = false := bne_eq_false_iff_eq.mpr c38
               clear c38
               by_cases c39 : 0 ≤ x6_2
               ·rw [if_pos c39] at H
                have c39b0 : decide (0 ≤ x6_2) = true := decide_eq_true c39
                clear c39
                by_cases c40 : x6_2 < (l1.length : Int)
                ·rw [if_pos c40] at H
                 have c40b0 : decide (x6_2 < (l1.length : Int)) = true := decide_eq_true c40
                 clear c40
                 by_cases c41 : ((rd_T62 x5_2 (ji35)).f3).length < 140737488355328
                 ·rw [if_pos c41] at H
                  have LMc41 := Aside0.mk c41
                  clear c41
                  obtain ⟨y200, hy200⟩ : ∃ y_ : List Int, y_ = (((rd_T62 x5_2 (ji35)).f3) ++ [rd l1 x6_2]) := ⟨_, rfl⟩
                  replace H : (impl_MakeDelta.l0 k3 l0 l1 (x5_2.set ((ji35) : Int).toNat (⟨(rd_T62 x5_2 (ji35)).f0, (rd_T62 x5_2 (ji35)).f1, (rd_T62 x5_2 (ji35)).f2, y200⟩ : S62)) (wrap64 (x6_2 + 1))) = some r := by first | (rw [hy200]; with_reducible exact H) | (have H2_ := (Option.bind_some _ _).symm.trans H; rw [hy200]; with_reducible exact H2_) | (have H2_ := (Option.bind_some _ _).symm.trans H; with_reducible exact H2_) | with_reducible exact H | (rw [hy200]; exact H) | exact H
                  have Ny200 := Aside0.mk hy200
                  clear hy200
                  obtain ⟨y203, hy203⟩ : ∃ y_ : List (S62), y_ = (x5_2.set ((ji35) : Int).toNat (⟨(rd_T62 x5_2 (ji35)).f0, (rd_T62 x5_2 (ji35)).f1, (rd_T62 x5_2 (ji35)).f2, y200⟩ : S62)) := ⟨_, rfl⟩
                  replace H : (impl_MakeDelta.l0 k3 l0 l1 y203 (wrap64 (x6_2 + 1))) = some r := by first | (rw [hy203]; with_reducible exact H) | (have H2_ := (Option.bind_some _ _).symm.trans H; rw [hy203]; with_reducible exact H2_) | (have H2_ := (Option.bind_some _ _).symm.trans H; with_reducible exact H2_) | with_reducible exact H | (rw [hy203]; exact H) | exact H
                  have Ny203 := Aside0.mk hy203
                  clear hy203
                  have H' := Aside0.mk H
                  clear H
                  obtain ⟨Ao43, co43, eo43⟩ := Kd.S_slice HO_5.out
                  subst eo43
                  have p197 : 0 ≤ ((ji35) : Int) := of_decide_eq_true (by first | (with_reducible assumption) | assumption)
                  have q197 : (ji35) < (x5_2.length : Int) := of_decide_eq_true (by first | (with_reducible assumption) | assumption)
                  obtain ⟨ad197, A197_3, c197_3, e197, hx197_0, hx197_1, hx197_2, hx197_3, hl197_3, hi197_3⟩ := at_T62 (Kd.S_reads' HO_5.out).2.2 (ji35) p197 q197
                  cases e197
                  obtain ⟨ce197, hce197, hMe197, hcc197⟩ := Kd.S_get HO_5.out z62 (ji35) p197 (by first | exact q197 | exact of_decide_eq_true (by first | (with_reducible assumption) | assumption) | (have e_ := (Kd.S_reads' HO_5.out).1; omega))
                  obtain ⟨ve197_3, rfl, ge197_3⟩ := k62_openM hMe197
                  have hv197_3 := hcc197 3 _ rfl
                  rw [add_field _ _ 3 (by omega)] at hv197_3
                  replace hv197_3 := Option.some.inj (hv197_3.symm.trans hx197_3)
                  rw [hv197_3] at ge197_3
                  have HL197_3 := Aside0.mk (show Kd.R (Kd.int .u8) 5 _ _ _ _ ((rd_T62 x5_2 (ji35)).f3) from ge197_3)
                  clear hv197_3 ge197_3
                  have HX197_3 := Aside0.mk hx197_3
                  clear hcc197 hce197
                  have HR197_3 := Aside0.mk hi197_3
                  have HC197_3 := Aside0.mk hl197_3
                  clear hi197_3 hl197_3
                  replace p197 := eq_true p197
                  replace q197 := eq_true q197
                  try go_wp2
                  have n0_ := Aside0.mk (Kd.S_drew HO_5.out)
                  have n1_ := Aside0.mk (Kd.R_drew HL197_3.out)
                  have n2_ := Aside0.mk (Kd.C_drew HR197_3.out)
                  have n3_ := Aside0.mk (below_drew1 HB.out)
                  clear HO_5
                  clear HL197_3
                  clear HR197_3
                  clear HB
                  have HO_5 := n0_
                  have HL197_3 := n1_
                  have HR197_3 := n2_
                  have HB := n3_
                  clear n0_ n1_ n2_ n3_
                  have p198 : 0 ≤ ((ji35) : Int) := of_decide_eq_true (by first | (with_reducible assumption) | assumption)
                  have q198 : (ji35) < (x5_2.length : Int) := of_decide_eq_true (by first | (with_reducible assumption) | assumption)
                  obtain ⟨ad198, A198_3, c198_3, e198, hx198_0, hx198_1, hx198_2, hx198_3, hl198_3, hi198_3⟩ := at_T62 (Kd.S_reads' HO_5.out).2.2 (ji35) p198 q198
                  obtain rfl : ad197 = ad198 := (by injection e198)
                  obtain ⟨ce198, hce198, hMe198, hcc198⟩ := Kd.S_get HO_5.out z62 (ji35) p198 (by first | exact q198 | exact of_decide_eq_true (by first | (with_reducible assumption) | assumption) | (have e_ := (Kd.S_reads' HO_5.out).1; omega))
                  obtain ⟨ve198_3, rfl, ge198_3⟩ := k62_openM hMe198
                  have hv198_3 := hcc198 3 _ rfl
                  rw [add_field _ _ 3 (by omega)] at hv198_3
                  replace hv198_3 := Option.some.inj (hv198_3.symm.trans hx198_3)
                  rw [hv198_3] at ge198_3
                  have HL198_3 := Aside0.mk (show Kd.R (Kd.int .u8) 5 _ _ _ _ ((rd_T62 x5_2 (ji35)).f3) from ge198_3)
                  clear hv198_3 ge198_3
                  have HX198_3 := Aside0.mk hx198_3
                  clear hcc198 hce198
                  have HR198_3 := Aside0.mk hi198_3
                  have HC198_3 := Aside0.mk hl198_3
                  clear hi198_3 hl198_3
                  replace p198 := eq_true p198
                  replace q198 := eq_true q198
                  have p199 : 0 ≤ (x6_2 : Int) := of_decide_eq_true (by first | (with_reducible assumption) | assumption)
                  have q199 : x6_2 < (l1.length : Int) := of_decide_eq_true (by first | (with_reducible assumption) | assumption)
                  obtain ⟨ad199, e199, hx199_0⟩ := Kd.at_int HR1.out x6_2 p199 q199
                  have hw199_0 := hx199_0
                  cases e199
                  try (replace hx199_0 := (HB.out.cell (World.block_lt_of_cell? w _ hx199_0)).trans hx199_0)
                  replace p199 := eq_true p199
                  replace q199 := eq_true q199
                  obtain ⟨go45, co45, eo45, gb45, gl45, cl45, HG45⟩ := Kd.S_form HO_5.out (by have h_ : ((ji35) : Int) < ((x5_2.length : Int) : Int) := of_decide_eq_true (by first | (with_reducible assumption) | assumption); have h2_ : 0 ≤ ((ji35) : Int) := (of_decide_eq_true (by first | (with_reducible assumption) | assumption)); omega)
                  (first | cases eo45 | (injection eo45 with ea_ en_ ec_; (first | subst ea_ | (injection ea_ with ea_; subst ea_)); subst ec_; clear en_))
                  have GB45 := Aside0.mk gb45
                  have GG45 := Aside0.mk HG45
                  clear gb45 gl45 HG45
                  (first | simp only [add_plain] at hx197_0 | skip)
                  (first | simp only [add_plain] at hx197_1 | skip)
                  (first | simp only [add_plain] at hx197_2 | skip)
                  (first | simp only [add_plain] at hx197_3 | skip)
                  (first | simp only [add_plain] at hx198_0 | skip)
                  (first | simp only [add_plain] at hx198_1 | skip)
                  (first | simp only [add_plain] at hx198_2 | skip)
                  (first | simp only [add_plain] at hx198_3 | skip)
                  obtain ⟨oki45, ce45, hcl45, hM45, hcc45, _, _, hH45⟩ := Kd.S_elem HO_5.out z62 ((ji35) : Int) (of_decide_eq_true (by first | (with_reducible assumption) | assumption)) (by have h_ : ((ji35) : Int) < ((x5_2.length : Int) : Int) := of_decide_eq_true (by first | (with_reducible assumption) | assumption); first | exact h_ | (have e_ := (Kd.S_reads' HO_5.out).1; omega) | simpa using h_)
                  obtain ⟨ve45_3, rfl, ge45_3⟩ := k62_openM hM45
                  have hv45 := hcc45 3 _ rfl
                  have hX45 := HX198_3.out
                  (try simp only [add_plain] at hX45)
                  (try simp only [Nat.add_zero] at hv45)
                  replace hv45 := Option.some.inj (hv45.symm.trans hX45)
                  subst hv45
                  clear hX45 hcc45 hcl45
                  have UU45 := Aside0.mk (show Kd.R (Kd.int .u8) 5 _ w.heap.size oki45 (.slice A198_3 ((rd_T62 x5_2 (ji35)).f3).length c198_3) ((rd_T62 x5_2 (ji35)).f3) from ge45_3)
                  have HH45 := Aside0.mk hH45
                  have HN45 := Aside0.mk (Kd.S_reads' HO_5.out).1
                  clear hH45 ge45_3
                  refine start_ (n := 20) (S := fun w' => w'.cell? ⟨go45, (((ji35)).toNat * 4), none⟩ = some (.int .i64 ((rd_T62 x5_2 (ji35)).f0)) ∧ w'.cell? ⟨go45, (((ji35)).toNat * 4) + 1, none⟩ = some (.int .i64 ((rd_T62 x5_2 (ji35)).f1)) ∧ w'.cell? ⟨go45, (((ji35)).toNat * 4) + 2, none⟩ = some (.int .i64 ((rd_T62 x5_2 (ji35)).f2)) ∧ w'.cell? ⟨go45, (((ji35)).toNat * 4) + 3, none⟩ = some (.slice A198_3 ((rd_T62 x5_2 (ji35)).f3).length c198_3) ∧ w'.cell? (ad199.add (x6_2).toNat) = some (.int .u8 (rd l1 x6_2))) (ds := [19]) (tf 20 0) (by kernel_rfl) rfl rfl ⟨hx198_0, hx198_1, hx198_2, hx198_3, ((HB.out.cell (World.block_lt_of_cell? w _ hw199_0)).trans hw199_0)⟩ (fun hHeld => ?_); refine with_tabW impl_MakeDelta.tab20 impl_MakeDelta.bits20 (fun HT_ HW_ => ?_)
                  generalize wr.drew = w44 at HO_5 HL197_3 HR197_3 HB GG45 HH45 HL198_3 HR198_3 HX198_3 UU45 hx197_0 hx197_1 hx197_2 hx197_3 hx198_0 hx198_1 hx198_2 hx198_3 hx199_0 hHeld ⊢
                  refine pA_ 0 94 ?_ (tf 20 1) rfl rfl (any_of HT_.out (by kernel_rfl)) (fun _ _ _ h => h) (by rfl) ?_ ?_ ?_ ?_
                  (rotate_left; · intro w'; go_simp; with_reducible rfl)
                  (rotate_left; · simp only [Act.put, sT, s0, sS, i64_w, i32_w]; rfl)
                  refine pA_ 1 95 ?_ (tf 20 3) rfl rfl (any_of HT_.out (by kernel_rfl)) (fun _ _ _ h => h) (by rfl) ?_ ?_ ?_ ?_
                  (rotate_left; · intro w'; go_simp; with_reducible rfl)
                  (rotate_left; · simp only [Act.put, sT, s0, sS, i64_w, i32_w]; rfl)
                  refine pA_ 2 96 ?_ (tf 20 7) rfl rfl (any_of HT_.out (by kernel_rfl)) (fun _ _ _ h => h) (by rfl) ?_ ?_ ?_ ?_
                  (rotate_left; · intro w'; go_simp; with_reducible rfl)
                  (rotate_left; · simp only [Act.put, sT, s0, sS, i64_w, i32_w]; rfl)
                  refine pA_ 3 97 ?_ (tf 20 15) rfl rfl (any_of HT_.out (by kernel_rfl)) (fun _ _ _ h => h) (by rfl) ?_ ?_ ?_ ?_
                  (rotate_left; · intro w'; go_simp; with_reducible rfl)
                  (rotate_left; · simp only [Act.put, sT, s0, sS, i64_w, i32_w]; rfl)
                  refine pA_ 4 98 ?_ (tf 20 31) rfl rfl (any_of HT_.out (by kernel_rfl)) (fun _ _ _ h => h) (by rfl) ?_ ?_ ?_ ?_
                  (rotate_left; · intro w'; go_simp; with_reducible rfl)
                  (rotate_left; · simp only [Act.put, sT, s0, sS, i64_w, i32_w]; rfl)
                  refine pA_ 5 99 ?_ (tf 20 63) rfl rfl (any_of HT_.out (by kernel_rfl)) (fun _ _ _ h => h) (by rfl) ?_ ?_ ?_ ?_
                  (rotate_left; · intro w'; go_simp; with_reducible rfl)
                  (rotate_left; · simp only [Act.put, sT, s0, sS, i64_w, i32_w]; rfl)
                  refine pA_ 6 100 ?_ (tf 20 127) rfl rfl (any_of HT_.out (by kernel_rfl)) (fun _ _ _ h => h) (by rfl) ?_ ?_ ?_ ?_
                  (rotate_left; · intro w'; go_simp; with_reducible rfl)
                  (rotate_left; · simp only [Act.put, sT, s0, sS, i64_w, i32_w]; rfl)
                  refine pA_ 7 101 ?_ (tf 20 255) rfl rfl (any_of HT_.out (by kernel_rfl)) (fun _ _ _ h => h) (by rfl) ?_ ?_ ?_ ?_
                  (rotate_left; · intro w'; go_simp; with_reducible rfl)
                  (rotate_left; · simp only [Act.put, sT, s0, sS, i64_w, i32_w]; rfl)
                  refine pA_ 8 102 ?_ (tf 20 511) rfl rfl (any_of HT_.out (by kernel_rfl)) (fun _ _ _ h => h) (by rfl) ?_ ?_ ?_ ?_
                  (rotate_left; · intro w'; go_simp; with_reducible rfl)
                  (rotate_left; · simp only [Act.put, sT, s0, sS, i64_w, i32_w]; rfl)
                  refine pA_ 9 103 ?_ (tf 20 1023) rfl rfl (any_of HT_.out (by kernel_rfl)) (fun _ _ _ h => h) (by rfl) ?_ ?_ ?_ ?_
                  (rotate_left; · intro w'; go_simp; with_reducible rfl)
                  (rotate_left; · simp only [Act.put, sT, s0, sS, i64_w, i32_w]; rfl)
                  refine pA_ 11 105 ?_ (tf 20 3071) rfl rfl (any_of HT_.out (by kernel_rfl)) (fun _ _ _ h => h) (by rfl) ?_ ?_ ?_ ?_
                  (rotate_left; · intro w'; go_simp; with_reducible rfl)
                  (rotate_left; · simp only [Act.put, sT, s0, sS, i64_w, i32_w]; rfl)
                  refine pA_ 12 106 ?_ (tf 20 7167) rfl rfl (any_of HT_.out (by kernel_rfl)) (fun _ _ _ h => h) (by rfl) ?_ ?_ ?_ ?_
                  (rotate_left; · intro w'; go_simp; with_reducible rfl)
                  (rotate_left; · simp only [Act.put, sT, s0, sS, i64_w, i32_w]; rfl)
                  refine pA_ 13 107 ?_ (tf 20 15359) rfl rfl (any_of HT_.out (by kernel_rfl)) (fun _ _ _ h => h) (by rfl) ?_ ?_ ?_ ?_
                  (rotate_left; · intro w'; go_simp; with_reducible rfl)
                  (rotate_left; · simp only [Act.put, sT, s0, sS, i64_w, i32_w]; rfl)
                  refine tK_ 10 104 ?_ (tf 20 16383) rfl rfl (take_ofW HT_.out HW_.out (by kernel_rfl)) (fun _ _ _ h => h) (by rfl) ?_ hHeld ?_ ?_ ?_
                  (rotate_left; · rintro w' ⟨s0, s1, s2, s3, s4⟩; go_simp; with_reducible rfl)
                  (rotate_left; · simp only [Act.put, sT, s0, sS, i64_w, i32_w]; rfl)
                  refine tK_ 14 108 ?_ (tf 20 32767) rfl rfl (take_ofW HT_.out HW_.out (by kernel_rfl)) (fun _ _ _ h => h) (by rfl) ?_ hHeld ?_ ?_ ?_
                  (rotate_left; · rintro w' ⟨s0, s1, s2, s3, s4⟩; go_simp; with_reducible rfl)
                  (rotate_left; · simp only [Act.put, sT, s0, sS, i64_w, i32_w]; rfl)
                  refine one_ (i := 15) (N := some 109) (tf 20 65535) rfl rfl (one_of HT_.out (by kernel_rfl)) (by decide) (fun K hK => ?_)
                  refine value_ (w1 := ?_) (v := ?_) (by rfl) rfl ?_ ?_
                  rotate_left 2
                  ·go_simp
                   constructor
                   ·rfl
                   ·rfl
                  refine hK.out _ _ ⟨(World.cell?_alloc_lt _ _ _ (World.block_lt_of_cell? _ _ (hHeld.1))).trans (hHeld.1), (World.cell?_alloc_lt _ _ _ (World.block_lt_of_cell? _ _ (hHeld.2.1))).trans (hHeld.2.1), (World.cell?_alloc_lt _ _ _ (World.block_lt_of_cell? _ _ (hHeld.2.2.1))).trans (hHeld.2.2.1), (World.cell?_alloc_lt _ _ _ (World.block_lt_of_cell? _ _ (hHeld.2.2.2.1))).trans (hHeld.2.2.2.1), (World.cell?_alloc_lt _ _ _ (World.block_lt_of_cell? _ _ (((HB.out.cell (World.block_lt_of_cell? w _ hw199_0)).trans hw199_0)))).trans (((HB.out.cell (World.block_lt_of_cell? w _ hw199_0)).trans hw199_0))⟩ (fun hHeld => ?_)
                  clear hK K
                  refine norm_ (a' := ?_) ?_ ?_
                  rotate_left
                  ·show Act.put _ (some 109) _ = _
                   simp only [Act.put, sT, s0, sS, i64_w, i32_w]
                   rfl
                  refine one_ (i := 16) (N := some 110) (tf 20 131071) rfl rfl (one_of HT_.out (by kernel_rfl)) (by decide) (fun K hK => ?_)
                  refine Kd.R_append_step (Kd.int .u8) (w0 := w) w.heap.size (by rfl) (.tmp 104) (.tmp 109) 22 5 (.int .u8 0) 1 rfl Try.underlying22 info5 rfl (by decide) (by omega) (.slice A198_3 ((rd_T62 x5_2 (ji35)).f3).length c198_3) ((rd_T62 x5_2 (ji35)).f3) (rd l1 x6_2) [.int .u8 (rd l1 x6_2)] (fun k_ => oki45 k_ ∨ ((fun _ => True)) k_ ∧ w44.heap.size ≤ k_) (fun _ => False) rfl rfl ?aP (fun _ hk => hk.elim) ?aF ?aO ?aB ?aS ?aL ?_
                  (case aP => exact rfl)
                  (case aB => exact (by repeat (first | (with_reducible first | exact HB.out | apply below_alloc | apply pw_below_drewN | apply below_drew1) | exact HB.out)))
                  (case aF => exact (fun k_ hk => .inr ⟨trivial, hk⟩))
                  (case aO => exact (by (with_reducible repeat (first | apply Kd.R_alloc | apply Kd.R_drewN | apply Kd.R_drew)); exact Kd.R_mono UU45.out (fun _ hk => .inl hk)))
                  (case aS => exact (below_size (by repeat (first | (with_reducible first | exact HB.out | apply below_alloc | apply pw_below_drewN | apply below_drew1) | exact HB.out))))
                  (case aL => have := LMc41.out; omega)
                  intro v201 w46 ho hb hg hat
                  (first | have HS0_ := cell_grown hg (hHeld.1) (by first | (rw [add_block]; exact (fun e_ => ((HL198_3.out.1 _ e_.symm).2) rfl)) | (show some (Addr.add _ _).block ≠ _; rw [add_block]; exact (fun e_ => ((HL198_3.out.1 _ e_.symm).2) rfl)) | exact (fun e_ => ((HL198_3.out.1 _ e_.symm).2) rfl)) | have HS0_ := cell_grown hg (cell_unalloc (hHeld.1) (by first | (rw [add_block]; exact Kd.S_lt HO_5.out _ rfl) | (show (Addr.add _ _).block < _; rw [add_block]; exact Kd.S_lt HO_5.out _ rfl) | exact Kd.S_lt HO_5.out _ rfl)) (by first | (rw [add_block]; exact (fun e_ => ((HL198_3.out.1 _ e_.symm).2) rfl)) | (show some (Addr.add _ _).block ≠ _; rw [add_block]; exact (fun e_ => ((HL198_3.out.1 _ e_.symm).2) rfl)) | exact (fun e_ => ((HL198_3.out.1 _ e_.symm).2) rfl)))
                  (first | have HS1_ := cell_grown hg (hHeld.2.1) (by first | (rw [add_block]; exact (fun e_ => ((HL198_3.out.1 _ e_.symm).2) rfl)) | (show some (Addr.add _ _).block ≠ _; rw [add_block]; exact (fun e_ => ((HL198_3.out.1 _ e_.symm).2) rfl)) | exact (fun e_ => ((HL198_3.out.1 _ e_.symm).2) rfl)) | have HS1_ := cell_grown hg (cell_unalloc (hHeld.2.1) (by first | (rw [add_block]; exact Kd.S_lt HO_5.out _ rfl) | (show (Addr.add _ _).block < _; rw [add_block]; exact Kd.S_lt HO_5.out _ rfl) | exact Kd.S_lt HO_5.out _ rfl)) (by first | (rw [add_block]; exact (fun e_ => ((HL198_3.out.1 _ e_.symm).2) rfl)) | (show some (Addr.add _ _).block ≠ _; rw [add_block]; exact (fun e_ => ((HL198_3.out.1 _ e_.symm).2) rfl)) | exact (fun e_ => ((HL198_3.out.1 _ e_.symm).2) rfl)))
                  (first | have HS2_ := cell_grown hg (hHeld.2.2.1) (by first | (rw [add_block]; exact (fun e_ => ((HL198_3.out.1 _ e_.symm).2) rfl)) | (show some (Addr.add _ _).block ≠ _; rw [add_block]; exact (fun e_ => ((HL198_3.out.1 _ e_.symm).2) rfl)) | exact (fun e_ => ((HL198_3.out.1 _ e_.symm).2) rfl)) | have HS2_ := cell_grown hg (cell_unalloc (hHeld.2.2.1) (by first | (rw [add_block]; exact Kd.S_lt HO_5.out _ rfl) | (show (Addr.add _ _).block < _; rw [add_block]; exact Kd.S_lt HO_5.out _ rfl) | exact Kd.S_lt HO_5.out _ rfl)) (by first | (rw [add_block]; exact (fun e_ => ((HL198_3.out.1 _ e_.symm).2) rfl)) | (show some (Addr.add _ _).block ≠ _; rw [add_block]; exact (fun e_ => ((HL198_3.out.1 _ e_.symm).2) rfl)) | exact (fun e_ => ((HL198_3.out.1 _ e_.symm).2) rfl)))
                  (first | have HS3_ := cell_grown hg (hHeld.2.2.2.1) (by first | (rw [add_block]; exact (fun e_ => ((HL198_3.out.1 _ e_.symm).2) rfl)) | (show some (Addr.add _ _).block ≠ _; rw [add_block]; exact (fun e_ => ((HL198_3.out.1 _ e_.symm).2) rfl)) | exact (fun e_ => ((HL198_3.out.1 _ e_.symm).2) rfl)) | have HS3_ := cell_grown hg (cell_unalloc (hHeld.2.2.2.1) (by first | (rw [add_block]; exact Kd.S_lt HO_5.out _ rfl) | (show (Addr.add _ _).block < _; rw [add_block]; exact Kd.S_lt HO_5.out _ rfl) | exact Kd.S_lt HO_5.out _ rfl)) (by first | (rw [add_block]; exact (fun e_ => ((HL198_3.out.1 _ e_.symm).2) rfl)) | (show some (Addr.add _ _).block ≠ _; rw [add_block]; exact (fun e_ => ((HL198_3.out.1 _ e_.symm).2) rfl)) | exact (fun e_ => ((HL198_3.out.1 _ e_.symm).2) rfl)))
                  rw [← Ny200.out] at ho
                  have n0_ := Aside0.mk (hb)
                  have n1_ := Aside0.mk (Kd.H_grown (Kd.H_widen (by repeat (first | exact HH45.out | refine Kd.H_alloc ?_ _ | refine Kd.H_drewN ?_ _ | refine Kd.H_drew ?_))) hg (fun k_ e_ => .inl (UU45.out.1 k_ e_)))
                  have n2_ := Aside0.mk (ho)
                  clear HB
                  clear HH45
                  clear HO_5
                  clear UU45
                  clear HL197_3
                  clear HL198_3
                  have HB := n0_
                  have HH45 := n1_
                  have HO202 := n2_
                  clear n0_ n1_ n2_
                  clear ho hb hg hat
                  have p42 : 0 ≤ ((ji35) : Int) := of_decide_eq_true (by first | (with_reducible assumption) | assumption)
                  have q42 : ((ji35) : Int) < ((x5_2.length : Int) : Int) := of_decide_eq_true (by first | (with_reducible assumption) | assumption)
                  replace p42 := eq_true p42
                  replace q42 := eq_true q42
                  obtain ⟨Ao49, co49, eo49⟩ := Kd.R_slice HO202.out
                  (first | subst eo49 | (injection eo49 with f1_ f2_ f3_; have f4_ := f1_.symm; have f5_ := f3_.symm; clear f1_ f2_ f3_; subst f4_; subst f5_))
                  obtain ⟨_, _, hraw47, _, _, hcc47, _⟩ := Kd.H_raw HH45.out (of_decide_eq_true (by first | (with_reducible assumption) | assumption)) (by have h_ : ((ji35) : Int) < ((x5_2.length : Int) : Int) := of_decide_eq_true (by first | (with_reducible assumption) | assumption); first | exact h_ | (have e_ := (HN45.out); omega) | simpa using h_)
                  obtain ⟨_, hfr47⟩ := Kd.H_at HH45.out (of_decide_eq_true (by first | (with_reducible assumption) | assumption)) (by have h_ : ((ji35) : Int) < ((x5_2.length : Int) : Int) := of_decide_eq_true (by first | (with_reducible assumption) | assumption); first | exact h_ | (have e_ := (HN45.out); omega) | simpa using h_)
                  have hx47_0 := hcc47 3 _ rfl
                  have hf47_0 := hfr47 3
                  (try rw [show (k62).sz = 4 from rfl] at hx47_0)
                  (try rw [show (k62).sz = 4 from rfl] at hf47_0)
                  have HP47 := Kd.S_seg0 HH45.out (of_decide_eq_true (by first | (with_reducible assumption) | assumption)) (by have h_ : ((ji35) : Int) < ((x5_2.length : Int) : Int) := of_decide_eq_true (by first | (with_reducible assumption) | assumption); first | exact h_ | (have e_ := (HN45.out); omega) | simpa using h_) (seg := [.slice Ao49 y200.length co49]) (j := 3) (show 4 ≤ 4 from by decide) (x' := (⟨(rd_T62 x5_2 (ji35)).f0, (rd_T62 x5_2 (ji35)).f1, (rd_T62 x5_2 (ji35)).f2, y200⟩ : S62)) (k62_mkM _ _ _ (⟨(rd_T62 x5_2 (ji35)).f0, (rd_T62 x5_2 (ji35)).f1, (rd_T62 x5_2 (ji35)).f2, y200⟩ : S62) HO202.out) (fun _ hk => hk)
                  clear hcc47 hfr47
                  have HS47 := HP47.1
                  rw [← Ny203.out] at HS47
                  have HQ47 := Aside0.mk HS47
                  obtain ⟨_, hgg47⟩ := Kd.R_typed hraw47 go45 rfl
                  have GG47_ := Aside0.mk hgg47
                  clear HP47 HS47 hgg47
                  refine hK.out _ _ ⟨HS0_, HS1_, HS2_, HS3_, ((HB.out.cell (World.block_lt_of_cell? w _ hw199_0)).trans hw199_0)⟩ (fun hHeld => ?_)
                  clear hK K
                  refine norm_ (a' := ?_) ?_ ?_
                  rotate_left
                  ·show Act.put _ (some 110) _ = _
                   simp only [Act.put, sT, s0, sS, i64_w, i32_w]
                   rfl
                  refine pA_ 17 111 ?_ (tf 20 262143) rfl rfl (any_of HT_.out (by kernel_rfl)) (fun _ _ _ h => h) (by rfl) ?_ ?_ ?_ ?_
                  (rotate_left; · intro w'; go_simp; with_reducible rfl)
                  (rotate_left; · simp only [Act.put, sT, s0, sS, i64_w, i32_w]; rfl)
                  refine pA_ 18 112 ?_ (tf 20 524287) rfl rfl (any_of HT_.out (by kernel_rfl)) (fun _ _ _ h => h) (by rfl) ?_ ?_ ?_ ?_
                  (rotate_left; · intro w'; go_simp; with_reducible rfl)
                  (rotate_left; · simp only [Act.put, sT, s0, sS, i64_w, i32_w]; rfl)
                  refine last_ (i := 19) (N := none) (tf 20 1048575) rfl rfl (one_of HT_.out (by kernel_rfl)) (by decide) (fun K hK => ?_)
                  refine skip_ (w1 := ?_) (by rfl) rfl ?_ ?_
                  rotate_left
                  ·go_simp
                   rfl
                  refine hK.out _ _ ?_
                  clear hK K
                  refine done_ (done_of HT_.out (by kernel_rfl)) ?_
                  try go_wp2
                  go_roundg k3
                  case measure => have := HJ2.out; have := HK2.out; have := HK3.out; omega
                  case rel => exact ⟨(y203), (wrap64 (x6_2 + 1)), (by first | rfl | (simp; done) | (simp [*]; done)), H', ⟨by have := HJ2.out; have := HK2.out; have := HK3.out; omega⟩, ⟨by (with_reducible repeat (first | apply Kd.S_alloc | apply Kd.S_drewN | apply Kd.S_drew)); exact HQ47.out⟩, ⟨by repeat (first | (with_reducible first | exact HB.out | apply below_alloc | apply pw_below_drewN | apply below_drew1 | refine below_set ?_ GB45.out) | exact HB.out)⟩⟩
                 ·rw [if_neg c41] at H
                  exact absurd H (by simp)
                ·rw [if_neg c40] at H
                 exact absurd H (by simp)
               ·rw [if_neg c39] at H
                exact absurd H (by simp)
              ·rw [if_neg c38] at H
               have c38b0 : (((rd_T62 x5_2 (ji35)).f0) == 2) = false := beq_eq_false_iff_ne.mpr c38
               have c38b1 : (((rd_T62 x5_2 (ji35)).f0) != 2) = true := bne_iff_ne.mpr c38
               by_cases c50 : 0 ≤ x6_2
               ·rw [if_pos c50] at H
                have c50b0 : decide (0 ≤ x6_2) = true := decide_eq_true c50
                clear c50
                by_cases c51 : x6_2 < (l1.length : Int)
                ·rw [if_pos c51] at H
                 have c51b0 : decide (x6_2 < (l1.length : Int)) = true := decide_eq_true c51
                 clear c51
                 obtain ⟨y205, hy205⟩ : ∃ y_ : List Int, y_ = (([rd l1 x6_2] : List Int)) := ⟨_, rfl⟩
                 replace H : (if x5_2.length < 2932031007402 then (impl_MakeDelta.l0 k3 l0 l1 (x5_2 ++ [(⟨2, 0, 0, y205⟩ : S62)]) (wrap64 (x6_2 + 1))) else (none)) = some r := by first | (rw [hy205]; with_reducible exact H) | (have H2_ := (Option.bind_some _ _).symm.trans H; rw [hy205]; with_reducible exact H2_) | (have H2_ := (Option.bind_some _ _).symm.trans H; with_reducible exact H2_) | with_reducible exact H | (rw [hy205]; exact H) | exact H
                 have Ny205 := Aside0.mk hy205
                 clear hy205
                 by_cases c52 : x5_2.length < 2932031007402
                 ·rw [if_pos c52] at H
                  have LMc52 := Aside0.mk c52
                  clear c52
                  obtain ⟨y208, hy208⟩ : ∃ y_ : List (S62), y_ = (x5_2 ++ [(⟨2, 0, 0, y205⟩ : S62)]) := ⟨_, rfl⟩
                  replace H : (impl_MakeDelta.l0 k3 l0 l1 y208 (wrap64 (x6_2 + 1))) = some r := by first | (rw [hy208]; with_reducible exact H) | (have H2_ := (Option.bind_some _ _).symm.trans H; rw [hy208]; with_reducible exact H2_) | (have H2_ := (Option.bind_some _ _).symm.trans H; with_reducible exact H2_) | with_reducible exact H | (rw [hy208]; exact H) | exact H
                  have Ny208 := Aside0.mk hy208
                  clear hy208
                  have H' := Aside0.mk H
                  clear H
                  obtain ⟨Ao53, co53, eo53⟩ := Kd.S_slice HO_5.out
                  subst eo53
                  have p197 : 0 ≤ ((ji35) : Int) := of_decide_eq_true (by first | (with_reducible assumption) | assumption)
                  have q197 : (ji35) < (x5_2.length : Int) := of_decide_eq_true (by first | (with_reducible assumption) | assumption)
                  obtain ⟨ad197, A197_3, c197_3, e197, hx197_0, hx197_1, hx197_2, hx197_3, hl197_3, hi197_3⟩ := at_T62 (Kd.S_reads' HO_5.out).2.2 (ji35) p197 q197
                  cases e197
                  obtain ⟨ce197, hce197, hMe197, hcc197⟩ := Kd.S_get HO_5.out z62 (ji35) p197 (by first | exact q197 | exact of_decide_eq_true (by first | (with_reducible assumption) | assumption) | (have e_ := (Kd.S_reads' HO_5.out).1; omega))
                  obtain ⟨ve197_3, rfl, ge197_3⟩ := k62_openM hMe197
                  have hv197_3 := hcc197 3 _ rfl
                  rw [add_field _ _ 3 (by omega)] at hv197_3
                  replace hv197_3 := Option.some.inj (hv197_3.symm.trans hx197_3)
                  rw [hv197_3] at ge197_3
                  have HL197_3 := Aside0.mk (show Kd.R (Kd.int .u8) 5 _ _ _ _ ((rd_T62 x5_2 (ji35)).f3) from ge197_3)
                  clear hv197_3 ge197_3
                  have HX197_3 := Aside0.mk hx197_3
                  clear hcc197 hce197
                  have HR197_3 := Aside0.mk hi197_3
                  have HC197_3 := Aside0.mk hl197_3
                  clear hi197_3 hl197_3
                  replace p197 := eq_true p197
                  replace q197 := eq_true q197
                  have p204 : 0 ≤ (x6_2 : Int) := of_decide_eq_true (by first | (with_reducible assumption) | assumption)
                  have q204 : x6_2 < (l1.length : Int) := of_decide_eq_true (by first | (with_reducible assumption) | assumption)
                  obtain ⟨ad204, e204, hx204_0⟩ := Kd.at_int HR1.out x6_2 p204 q204
                  cases e204
                  try (replace hx204_0 := (HB.out.cell (World.block_lt_of_cell? w _ hx204_0)).trans hx204_0)
                  replace p204 := eq_true p204
                  replace q204 := eq_true q204
                  go_wp2_with (first | ((with_reducible refine gate_dst (N := 118) rfl ?_); (try (refine gate_guard (by rfl) ?_; dsimp only)); refine Kd.R_lit (Kd.int .u8) _ 5 ?hg (N := 118) ?hd (xs := ([rd l1 x6_2] : List Int)) (inner := [.int .u8 (rd l1 x6_2)]) (ok := fun _ => True) (okp := fun _ => True) ?hr ?hp (fun _ hk => hk) trivial (Below.refl _ _) (Nat.le_refl _) (by simp) ?_; (case hd => rfl); (case hg => rfl); (case hr => first | (go_simp; done) | (go_simp; rfl) | (obtain ⟨_, _, e_⟩ := Kd.R_slice HO207.out; subst e_; first | (go_simp; done) | (go_simp; rfl))); (case hp => exact (Reps.one (show Kd.M (Kd.int .u8) _ _ _ (rd l1 x6_2) [.int .u8 (rd l1 x6_2)] from rfl) (Reps.none _ _))); intro v206 w54 ho55 hb hg_ hnew_; clear hg_ hnew_; (first | rw [← Ny205.out] at ho55 | (simp only [Int.reduceToNat] at ho55; rw [← Ny205.out] at ho55)); have n0_ := Aside0.mk (Kd.S_elder' (by (with_reducible repeat (first | apply Kd.S_alloc | apply Kd.S_drewN | apply Kd.S_drew)); exact HO_5.out) (Kd.R_base ho55) hb); have n1_ := Aside0.mk (Kd.R_elder' (by (with_reducible repeat (first | apply Kd.R_alloc | apply Kd.R_drewN | apply Kd.R_drew)); exact HL197_3.out) (Kd.R_base ho55) hb); have n2_ := Aside0.mk (Kd.R_lower (Kd.R_new' ho55 (Kd.R_lt (by (with_reducible repeat (first | apply Kd.R_alloc | apply Kd.R_drewN | apply Kd.R_drew)); exact HL197_3.out))) (below_size (by repeat (first | (with_reducible first | exact HB.out | apply below_alloc | apply pw_below_drewN | apply below_drew1) | exact HB.out)))); have n3_ := Aside0.mk (Kd.C_below (by repeat (first | (with_reducible exact HR197_3.out) | (with_reducible refine Kd.C_alloc ?_ _) | (with_reducible refine Kd.C_drewN ?_ _) | (with_reducible refine Kd.C_drew ?_) | exact HR197_3.out)) hb); have n4_ := Aside0.mk (pw_cell_below hb HX197_3.out); have n5_ := Aside0.mk (below_step (by repeat (first | (with_reducible first | exact HB.out | apply below_alloc | apply pw_below_drewN | apply below_drew1) | exact HB.out)) hb); clear HO_5; clear HL197_3; clear HR197_3; clear HX197_3; clear HB; have HO_5 := n0_; have HL197_3 := n1_; have HO207 := n2_; have HR197_3 := n3_; have HX197_3 := n4_; have HB := n5_; clear n0_ n1_ n2_ n3_ n4_ n5_; clear hb ho55; obtain ⟨Ao56, co56, eo56⟩ := Kd.R_slice HO207.out; subst eo56) | ((with_reducible refine gate_builtin (b := .append) (xs := #[.tmp 113, .tmp 120]) rfl ?_); (try (refine gate_guard (by rfl) ?_; dsimp only)); at_builtin; refine Kd.S_append k62 (w0 := w) w.heap.size rfl (.tmp 113) (.tmp 120) 23 62 (.agg #[(.int .i64 0), (.int .i64 0), (.int .i64 0), (.slice none 0 0)]) 48 rfl Try.underlying23 info62 rfl (by decide) (by omega) (.slice (some ad197) x5_2.length co53) x5_2 (⟨2, 0, 0, y205⟩ : S62) [.int .i64 2, .int .i64 0, .int .i64 0, .slice Ao56 y205.length co56] (fun _ => True) (fun k_ => some k_ = (.slice Ao56 y205.length co56 : Value).ownBlock) rfl rfl ?aP (fun k_ hk_ => ((Kd.R_mono (ok' := fun k_ => ((fun _ => True)) k_ ∧ some k_ ≠ (.slice (some ad197) x5_2.length co53 : Value).ownBlock) (Kd.R_apart' (HO207.out) (Kd.S_typed HO_5.out) (by decide)) (fun k_ hk => ⟨trivial, hk.2⟩))).1 k_ hk_.symm) ?aF ?aO ?aB ?aS ?aL ?_; (case aP => exact k62_mkM _ _ _ (⟨2, 0, 0, y205⟩ : S62) (Kd.R_mono (Kd.R_tight rfl (Kd.R_mono (ok' := fun k_ => ((fun _ => True)) k_ ∧ some k_ ≠ (.slice (some ad197) x5_2.length co53 : Value).ownBlock) (Kd.R_apart' (HO207.out) (Kd.S_typed HO_5.out) (by decide)) (fun k_ hk => ⟨trivial, hk.2⟩))) (fun _ h_ => h_))); (case aB => exact (by repeat (first | (with_reducible first | exact HB.out | apply below_alloc | apply pw_below_drewN | apply below_drew1) | exact HB.out))); (case aF => exact (fun _ _ => trivial)); (case aO => exact (by (with_reducible repeat (first | apply Kd.S_alloc | apply Kd.S_drewN | apply Kd.S_drew)); exact Kd.S_mono HO_5.out (fun k_ hk => ⟨trivial, fun e_ => hk.2 e_⟩))); (case aS => exact (below_size (by repeat (first | (with_reducible first | exact HB.out | apply below_alloc | apply pw_below_drewN | apply below_drew1) | exact HB.out)))); (case aL => have := LMc52.out; omega); intro v209 w57 ho hb hg hat; rw [← Ny208.out] at ho; have n0_ := Aside0.mk (Kd.R_after (ok := (fun k_ => some k_ ≠ (.slice Ao56 y205.length co56 : Value).ownBlock)) (by (with_reducible repeat (first | apply Kd.R_alloc | apply Kd.R_drewN | apply Kd.R_drew)); exact Kd.R_mono HL197_3.out (fun _ hk => ⟨hk.2, hk.1.2⟩)) hg hat); have n1_ := Aside0.mk (hb); have n2_ := Aside0.mk (ho); clear HL197_3; clear HB; clear HO_5; clear HO207; have HL197_3 := n0_; have HB := n1_; have HO210 := n2_; clear n0_ n1_ n2_; clear ho hb hg hat))
                  go_roundg k3
                  case measure => have := HJ2.out; have := HK2.out; have := HK3.out; omega
                  case rel => exact ⟨(y208), (wrap64 (x6_2 + 1)), (by first | rfl | (simp; done) | (simp [*]; done)), H', ⟨by have := HJ2.out; have := HK2.out; have := HK3.out; omega⟩, ⟨by (with_reducible repeat (first | apply Kd.S_alloc | apply Kd.S_drewN | apply Kd.S_drew)); exact HO210.out⟩, ⟨by repeat (first | (with_reducible first | exact HB.out | apply below_alloc | apply pw_below_drewN | apply below_drew1) | exact HB.out)⟩⟩
                 ·rw [if_neg c52] at H
                  exact absurd H (by simp)
                ·rw [if_neg c51] at H
                 exact absurd H (by simp)
               ·rw [if_neg c50] at H
                exact absurd H (by simp)
             ·rw [if_neg c37] at H
              exact absurd H (by simp)
            ·rw [if_neg c36] at H
             exact absurd H (by simp)
           ·rw [if_neg c34] at H
            have c34b0 : decide (0 < (x5_2.length : Int)) = false := decide_eq_false c34
            have c34b1 : decide (0 < x5_2.length) = false := decide_eq_false (by omega)
            clear c34
            by_cases c58 : 0 ≤ x6_2
            ·rw [if_pos c58] at H
             have c58b0 : decide (0 ≤ x6_2) = true := decide_eq_true c58
             clear c58
             by_cases c59 : x6_2 < (l1.length : Int)
             ·rw [if_pos c59] at H
              have c59b0 : decide (x6_2 < (l1.length : Int)) = true := decide_eq_true c59
              clear c59
              obtain ⟨y212, hy212⟩ : ∃ y_ : List Int, y_ = (([rd l1 x6_2] : List Int)) := ⟨_, rfl⟩
              replace H : (if x5_2.length < 2932031007402 then (impl_MakeDelta.l0 k3 l0 l1 (x5_2 ++ [(⟨2, 0, 0, y212⟩ : S62)]) (wrap64 (x6_2 + 1))) else (none)) = some r := by first | (rw [hy212]; with_reducible exact H) | (have H2_ := (Option.bind_some _ _).symm.trans H; rw [hy212]; with_reducible exact H2_) | (have H2_ := (Option.bind_some _ _).symm.trans H; with_reducible exact H2_) | with_reducible exact H | (rw [hy212]; exact H) | exact H
              have Ny212 := Aside0.mk hy212
              clear hy212
              by_cases c60 : x5_2.length < 2932031007402
              ·rw [if_pos c60] at H
               have LMc60 := Aside0.mk c60
               clear c60
               obtain ⟨y215, hy215⟩ : ∃ y_ : List (S62), y_ = (x5_2 ++ [(⟨2, 0, 0, y212⟩ : S62)]) := ⟨_, rfl⟩
               replace H : (impl_MakeDelta.l0 k3 l0 l1 y215 (wrap64 (x6_2 + 1))) = some r := by first | (rw [hy215]; with_reducible exact H) | (have H2_ := (Option.bind_some _ _).symm.trans H; rw [hy215]; with_reducible exact H2_) | (have H2_ := (Option.bind_some _ _).symm.trans H; with_reducible exact H2_) | with_reducible exact H | (rw [hy215]; exact H) | exact H
               have Ny215 := Aside0.mk hy215
               clear hy215
               have H' := Aside0.mk H
               clear H
               obtain ⟨Ao61, co61, eo61⟩ := Kd.S_slice HO_5.out
               subst eo61
               have p211 : 0 ≤ (x6_2 : Int) := of_decide_eq_true (by first | (with_reducible assumption) | assumption)
               have q211 : x6_2 < (l1.length : Int) := of_decide_eq_true (by first | (with_reducible assumption) | assumption)
               obtain ⟨ad211, e211, hx211_0⟩ := Kd.at_int HR1.out x6_2 p211 q211
               cases e211
               try (replace hx211_0 := (HB.out.cell (World.block_lt_of_cell? w _ hx211_0)).trans hx211_0)
               replace p211 := eq_true p211
               replace q211 := eq_true q211
               go_wp2_with (first | ((with_reducible refine gate_dst (N := 118) rfl ?_); (try (refine gate_guard (by rfl) ?_; dsimp only)); refine Kd.R_lit (Kd.int .u8) _ 5 ?hg (N := 118) ?hd (xs := ([rd l1 x6_2] : List Int)) (inner := [.int .u8 (rd l1 x6_2)]) (ok := fun _ => True) (okp := fun _ => True) ?hr ?hp (fun _ hk => hk) trivial (Below.refl _ _) (Nat.le_refl _) (by simp) ?_; (case hd => rfl); (case hg => rfl); (case hr => first | (go_simp; done) | (go_simp; rfl) | (obtain ⟨_, _, e_⟩ := Kd.R_slice HO214.out; subst e_; first | (go_simp; done) | (go_simp; rfl))); (case hp => exact (Reps.one (show Kd.M (Kd.int .u8) _ _ _ (rd l1 x6_2) [.int .u8 (rd l1 x6_2)] from rfl) (Reps.none _ _))); intro v213 w62 ho63 hb hg_ hnew_; clear hg_ hnew_; (first | rw [← Ny212.out] at ho63 | (simp only [Int.reduceToNat] at ho63; rw [← Ny212.out] at ho63)); have n0_ := Aside0.mk (Kd.S_elder' (by (with_reducible repeat (first | apply Kd.S_alloc | apply Kd.S_drewN | apply Kd.S_drew)); exact HO_5.out) (Kd.R_base ho63) hb); have n1_ := Aside0.mk (Kd.R_lower ho63 (below_size (by repeat (first | (with_reducible first | exact HB.out | apply below_alloc | apply pw_below_drewN | apply below_drew1) | exact HB.out)))); have n2_ := Aside0.mk (below_step (by repeat (first | (with_reducible first | exact HB.out | apply below_alloc | apply pw_below_drewN | apply below_drew1) | exact HB.out)) hb); clear HO_5; clear HB; have HO_5 := n0_; have HO214 := n1_; have HB := n2_; clear n0_ n1_ n2_; clear hb ho63; obtain ⟨Ao64, co64, eo64⟩ := Kd.R_slice HO214.out; subst eo64) | ((with_reducible refine gate_builtin (b := .append) (xs := #[.tmp 113, .tmp 120]) rfl ?_); (try (refine gate_guard (by rfl) ?_; dsimp only)); at_builtin; refine Kd.S_append k62 (w0 := w) w.heap.size rfl (.tmp 113) (.tmp 120) 23 62 (.agg #[(.int .i64 0), (.int .i64 0), (.int .i64 0), (.slice none 0 0)]) 48 rfl Try.underlying23 info62 rfl (by decide) (by omega) (.slice Ao61 x5_2.length co61) x5_2 (⟨2, 0, 0, y212⟩ : S62) [.int .i64 2, .int .i64 0, .int .i64 0, .slice Ao64 y212.length co64] (fun _ => True) (fun k_ => some k_ = (.slice Ao64 y212.length co64 : Value).ownBlock) rfl rfl ?aP (fun k_ hk_ => ((Kd.R_mono (ok' := fun k_ => ((fun _ => True)) k_ ∧ some k_ ≠ (.slice Ao61 x5_2.length co61 : Value).ownBlock) (Kd.R_apart' (HO214.out) (Kd.S_typed HO_5.out) (by decide)) (fun k_ hk => ⟨trivial, hk.2⟩))).1 k_ hk_.symm) ?aF ?aO ?aB ?aS ?aL ?_; (case aP => exact k62_mkM _ _ _ (⟨2, 0, 0, y212⟩ : S62) (Kd.R_mono (Kd.R_tight rfl (Kd.R_mono (ok' := fun k_ => ((fun _ => True)) k_ ∧ some k_ ≠ (.slice Ao61 x5_2.length co61 : Value).ownBlock) (Kd.R_apart' (HO214.out) (Kd.S_typed HO_5.out) (by decide)) (fun k_ hk => ⟨trivial, hk.2⟩))) (fun _ h_ => h_))); (case aB => exact (by repeat (first | (with_reducible first | exact HB.out | apply below_alloc | apply pw_below_drewN | apply below_drew1) | exact HB.out))); (case aF => exact (fun _ _ => trivial)); (case aO => exact (by (with_reducible repeat (first | apply Kd.S_alloc | apply Kd.S_drewN | apply Kd.S_drew)); exact Kd.S_mono HO_5.out (fun k_ hk => ⟨trivial, fun e_ => hk.2 e_⟩))); (case aS => exact (below_size (by repeat (first | (with_reducible first | exact HB.out | apply below_alloc | apply pw_below_drewN | apply below_drew1) | exact HB.out)))); (case aL => have := LMc60.out; omega); intro v216 w65 ho hb hg hat; rw [← Ny215.out] at ho; have n0_ := Aside0.mk (hb); have n1_ := Aside0.mk (ho); clear HB; clear HO_5; clear HO214; have HB := n0_; have HO217 := n1_; clear n0_ n1_; clear ho hb hg hat))
               go_roundg k3
               case measure => have := HJ2.out; have := HK2.out; have := HK3.out; omega
               case rel => exact ⟨(y215), (wrap64 (x6_2 + 1)), (by first | rfl | (simp; done) | (simp [*]; done)), H', ⟨by have := HJ2.out; have := HK2.out; have := HK3.out; omega⟩, ⟨by (with_reducible repeat (first | apply Kd.S_alloc | apply Kd.S_drewN | apply Kd.S_drew)); exact HO217.out⟩, ⟨by repeat (first | (with_reducible first | exact HB.out | apply below_alloc | apply pw_below_drewN | apply below_drew1) | exact HB.out)⟩⟩
              ·rw [if_neg c60] at H
               exact absurd H (by simp)
             ·rw [if_neg c59] at H
              exact absurd H (by simp)
            ·rw [if_neg c58] at H
             exact absurd H (by simp)
      ·rw [if_neg c8] at H
       have c8b0 : decide (x6_2 < (l1.length : Int)) = false := decide_eq_false c8
       clear c8
       by_cases c66 : (x5_2.length : Int) > 10000
       ·rw [if_pos c66] at H
        have c66b0 : decide (10000 < (x5_2.length : Int)) = true := decide_eq_true c66
        have c66b1 : decide (10000 < x5_2.length) = true := decide_eq_true (by omega)
        clear c66
        obtain rfl := Option.some.inj H
        obtain ⟨Ao67, co67, eo67⟩ := Kd.S_slice HO_5.out
        subst eo67
        go_wp2
        go_ret
        exact ⟨_, by first | rfl | (simp [errW_none, errW_some] <;> rfl) | (simp [*, errW_none, errW_some] <;> rfl), by first | exact Kd.S_nil _ _ _ _ _ | exact Kd.N_nil _ _ _ _ _ | exact Kd.V_nil _ _ _ _ _ | exact Kd.Q_nil _ _ _ _ _ | exact Kd.R_nil _ _ _ _ _, by repeat (first | (with_reducible first | exact HB.out | apply below_alloc | apply pw_below_drewN | apply below_drew1) | exact HB.out)⟩
       ·rw [if_neg c66] at H
        have c66b0 : decide (10000 < (x5_2.length : Int)) = false := decide_eq_false c66
        have c66b1 : decide (10000 < x5_2.length) = false := decide_eq_false (by omega)
        clear c66
        obtain rfl := Option.some.inj H
        obtain ⟨Ao68, co68, eo68⟩ := Kd.S_slice HO_5.out
        subst eo68
        go_wp2
        go_ret
        exact ⟨_, by first | rfl | (simp [errW_none, errW_some] <;> rfl) | (simp [*, errW_none, errW_some] <;> rfl), by (with_reducible repeat (first | apply Kd.S_alloc | apply Kd.S_drewN | apply Kd.S_drew)); exact HO_5.out, by repeat (first | (with_reducible first | exact HB.out | apply below_alloc | apply pw_below_drewN | apply below_drew1) | exact HB.out)⟩

end Go.Proofs.Ytkijlpiiiejjkaa.PFnExactSaved
