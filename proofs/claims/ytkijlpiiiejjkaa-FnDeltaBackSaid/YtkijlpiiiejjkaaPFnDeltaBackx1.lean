-- Laid by a program of this session: a turned copy of the kit's print, with contracts by hand beside.
import Derived.Test.YtkijlpiiiejjkaaPFnDeltaBackx0
namespace Go.Proofs.Ytkijlpiiiejjkaa.PFnDeltaBack
open Go.RowKit Go.Proofs.YtkijlpiiiejjkaaW.PrintWords Go.Proofs.YtkijlpiiiejjkaaW.PrintLast Go.Proofs.YtkijlpiiiejjkaaW.PrintMore
theorem zb0 {X : Prop} (h : X := by first | rfl | (simp; done) | (simp [*]; done)) : X := h
theorem zb1 {X : Prop} (h : X := by repeat (first | exact Drawn0.refl _ | apply Drawn0.step)) : X := h
theorem zb2 {X : Prop} (h : X := by first | (with_reducible assumption) | assumption) : X := h
attribute [local go_sem] max2_int min2_int max_two min_two max_three min_three max_four min_four   -- for this text's walks alone
set_option linter.unusedVariables false
set_option linter.unusedSimpArgs false

/-! ### spec_l14Find: function 47 -/
mutual
def spec_l14Find.l0 : Nat → List Int → List Int → Int → Int → Int → Int → Option (Int × Int)
 | 0, _, _, _, _, _, _ => none
 | k + 1, x0, x1, x2, x8, x9, x10 => if x10 < (x0.length : Int) then (spec_l14Find.l1 k x0 x1 x2 x8 x9 x10 0) else (some (x9, x8))
def spec_l14Find.l1 : Nat → List Int → List Int → Int → Int → Int → Int → Int → Option (Int × Int)
 | 0, _, _, _, _, _, _, _ => none
 | k + 1, x0, x1, x2, x8, x9, x10, x11 => if x11 < 1000 then (if (wrap64 (x10 + x11)) < (x0.length : Int) then (if (wrap64 (x2 + x11)) < (x1.length : Int) then (if 0 ≤ (wrap64 (x10 + x11)) then (if 0 ≤ (wrap64 (x2 + x11)) then (if (rd x0 (wrap64 (x10 + x11))) = (rd x1 (wrap64 (x2 + x11))) then (spec_l14Find.l1 k x0 x1 x2 x8 x9 x10 (wrap64 (x11 + 1))) else (if x11 > x8 then (spec_l14Find.l0 k x0 x1 x2 x11 x10 (wrap64 (x10 + 1))) else (spec_l14Find.l0 k x0 x1 x2 x8 x9 (wrap64 (x10 + 1))))) else (none)) else (none)) else (if x11 > x8 then (spec_l14Find.l0 k x0 x1 x2 x11 x10 (wrap64 (x10 + 1))) else (spec_l14Find.l0 k x0 x1 x2 x8 x9 (wrap64 (x10 + 1))))) else (if x11 > x8 then (spec_l14Find.l0 k x0 x1 x2 x11 x10 (wrap64 (x10 + 1))) else (spec_l14Find.l0 k x0 x1 x2 x8 x9 (wrap64 (x10 + 1))))) else (if x11 > x8 then (spec_l14Find.l0 k x0 x1 x2 x11 x10 (wrap64 (x10 + 1))) else (spec_l14Find.l0 k x0 x1 x2 x8 x9 (wrap64 (x10 + 1))))
end
def spec_l14Find.f (k : Nat) (l0 : List Int) (l1 : List Int) (a2 : Int) : Option (Int × Int) := spec_l14Find.l0 k l0 l1 a2 0 0 0
theorem spec_l14Find.mono_l : ∀ k, (∀ y0 y1 y2 y3 y4 y5, LeO (spec_l14Find.l0 k y0 y1 y2 y3 y4 y5) (spec_l14Find.l0 (k + 1) y0 y1 y2 y3 y4 y5)) ∧ (∀ y0 y1 y2 y3 y4 y5 y6, LeO (spec_l14Find.l1 k y0 y1 y2 y3 y4 y5 y6) (spec_l14Find.l1 (k + 1) y0 y1 y2 y3 y4 y5 y6))
 | 0 => ⟨fun _ _ _ _ _ _ r h => by simp [spec_l14Find.l0] at h, fun _ _ _ _ _ _ _ r h => by simp [spec_l14Find.l1] at h⟩
 | k + 1 => by
  obtain ⟨ih0, ih1⟩ := spec_l14Find.mono_l k; refine ⟨?_, ?_⟩ <;> intros <;> (first | unfold spec_l14Find.l0 | unfold spec_l14Find.l1) <;>
   repeat' first
   | (with_reducible exact ih0 _ _ _ _ _ _)
   | (with_reducible exact ih1 _ _ _ _ _ _ _)
   | (with_reducible exact LeO.refl _)
   | (with_reducible exact LeO.none _)
   | (with_reducible refine LeO.ite ?_ ?_)
   | (with_reducible refine LeO.bind ?_ (fun _ => ?_))
   | exact ih0 _ _ _ _ _ _
   | exact ih1 _ _ _ _ _ _ _
   | exact LeO.none _
   | refine LeO.ite ?_ ?_
   | refine LeO.bind ?_ (fun _ => ?_)
theorem spec_l14Find.mono : ∀ a0 a1 a2 k, LeO (spec_l14Find.f k a0 a1 a2) (spec_l14Find.f (k + 1) a0 a1 a2) := by
 intro a0 a1 a2 k; obtain ⟨ih0, ih1⟩ := spec_l14Find.mono_l k; unfold spec_l14Find.f
 repeat' first
   | (with_reducible exact ih0 _ _ _ _ _ _)
   | (with_reducible exact ih1 _ _ _ _ _ _ _)
   | (with_reducible exact LeO.refl _)
   | (with_reducible exact LeO.none _)
   | (with_reducible refine LeO.ite ?_ ?_)
   | (with_reducible refine LeO.bind ?_ (fun _ => ?_))
   | exact ih0 _ _ _ _ _ _
   | exact ih1 _ _ _ _ _ _ _
   | exact LeO.none _
   | refine LeO.ite ?_ ?_
   | refine LeO.bind ?_ (fun _ => ?_)
set_option maxHeartbeats 8000000 in
set_option maxRecDepth 100000 in
theorem spec_l14Find.calls (k : Nat) (A0 : Option Addr) (c0 : Nat) (l0 : List Int) (A1 : Option Addr) (c1 : Nat) (l1 : List Int) (a2 : Int) (r1 : Int) (r2 : Int) (w : World) (hr0 : Kd.C (Kd.int .u8) w A0 l0.length l0) (hc0 : l0.length ≤ c0) (hr1 : Kd.C (Kd.int .u8) w A1 l1.length l1) (hc1 : l1.length ≤ c1) (h : spec_l14Find.f k l0 l1 a2 = some (r1, r2)) :
  Calls Try.prog 47 #[.slice A0 l0.length c0, .slice A1 l1.length c1, .int .i64 a2] w fun e w' => e = .returned (.tuple #[.int .i64 r1, .int .i64 r2]) ∧ Drawn0 w w' := by
 have HR0 := Aside0.mk hr0; have HC0 := Aside0.mk hc0; clear hr0 hc0; have HR1 := Aside0.mk hr1; have HC1 := Aside0.mk hc1; clear hr1 hc1; have H : (spec_l14Find.l0 k l0 l1 a2 0 0 0) = some (r1, r2) := h; clear h; have H' := Aside0.mk H; clear H; go_enter Try.func47, Try.ntmps47; go_wp2; (repeat (go_quiet (fail); try go_wp2)); go_loopg [8, 9, 10] k (fun kq v8 v9 v10 w' => ∃ (x8_1 : Int) (x9_1 : Int) (x10_1 : Int), v8 = .int .i64 x8_1 ∧ v9 = .int .i64 x9_1 ∧ v10 = .int .i64 x10_1 ∧ Aside0 (spec_l14Find.l0 kq l0 l1 a2 x8_1 x9_1 x10_1 = some (r1, r2)) ∧ Aside0 (kq ≤ k) ∧ Drawn0 w w'); (case atStart => exact ⟨(0), (0), (0), zb0, zb0, zb0, H', ⟨Nat.le_refl _⟩, zb1⟩); case round =>
  clear H'; (try clear c1); (try clear p2); obtain ⟨x8_1, x9_1, x10_1, rfl, rfl, rfl, HA, HK1, ⟨m1, rfl⟩⟩ := hrel
  cases gk with
  | zero => exact absurd HA.out (by simp [spec_l14Find.l0])
  | succ k1 =>
   have H := HA.out; clear HA; simp only [spec_l14Find.l0] at H; by_cases c4 : x10_1 < (l0.length : Int)
   ·rw [if_pos c4] at H; have c4b0 : decide (x10_1 < (l0.length : Int)) = true := decide_eq_true c4; clear c4; have H' := Aside0.mk H; clear H; go_wp2; (repeat (go_quiet (fail); try go_wp2)); go_loopg [11] k1 (fun kq v11 w' => ∃ (x11_2 : Int), v11 = .int .i64 x11_2 ∧ Aside0 (spec_l14Find.l1 kq l0 l1 a2 x8_1 x9_1 x10_1 x11_2 = some (r1, r2)) ∧ Aside0 (kq ≤ k1) ∧ Drawn0 w w'); (case atStart => exact ⟨(0), zb0, H', ⟨Nat.le_refl _⟩, zb1⟩); case round =>
     clear H'; (try clear c1); (try clear p2); (try clear c4); (try clear c4b0); (try clear p2); obtain ⟨x11_2, rfl, HA, HK2, ⟨m2, rfl⟩⟩ := hrel
     cases gk with
     | zero => exact absurd HA.out (by simp [spec_l14Find.l1])
     | succ k2 =>
      have H := HA.out; clear HA; simp only [spec_l14Find.l1] at H; by_cases c5 : x11_2 < 1000
      ·rw [if_pos c5] at H; have c5b0 : decide (x11_2 < 1000) = true := decide_eq_true c5; clear c5; by_cases c6 : (wrap64 (x10_1 + x11_2)) < (l0.length : Int)
       ·rw [if_pos c6] at H; have c6b0 : decide ((wrap64 (x10_1 + x11_2)) < (l0.length : Int)) = true := decide_eq_true c6; clear c6; by_cases c7 : (wrap64 (a2 + x11_2)) < (l1.length : Int)
        ·rw [if_pos c7] at H; have c7b0 : decide ((wrap64 (a2 + x11_2)) < (l1.length : Int)) = true := decide_eq_true c7; clear c7; obtain ⟨ji8, hji8⟩ : ∃ j_ : Int, (wrap64 (x10_1 + x11_2)) = j_ := ⟨_, rfl⟩; replace H : (if 0 ≤ (ji8) then (if 0 ≤ (wrap64 (a2 + x11_2)) then (if (rd l0 (ji8)) = (rd l1 (wrap64 (a2 + x11_2))) then (spec_l14Find.l1 k2 l0 l1 a2 x8_1 x9_1 x10_1 (wrap64 (x11_2 + 1))) else (if x11_2 > x8_1 then (spec_l14Find.l0 k2 l0 l1 a2 x11_2 x10_1 (wrap64 (x10_1 + 1))) else (spec_l14Find.l0 k2 l0 l1 a2 x8_1 x9_1 (wrap64 (x10_1 + 1))))) else (none)) else (none)) = some (r1, r2) := by first | (rw [hji8] at H; exact H) | (simp only [hji8] at H ⊢; exact H)
         (try rw [hji8] at c6b0); have hji8w : (IntKind.i64.wrap (x10_1 + x11_2)) = ji8 := (i64_w _).trans hji8; by_cases c9 : 0 ≤ (ji8)
         ·rw [if_pos c9] at H; have c9b0 : decide (0 ≤ (ji8)) = true := decide_eq_true c9; clear c9; obtain ⟨ji10, hji10⟩ : ∃ j_ : Int, (wrap64 (a2 + x11_2)) = j_ := ⟨_, rfl⟩; replace H : (if 0 ≤ (ji10) then (if (rd l0 (ji8)) = (rd l1 (ji10)) then (spec_l14Find.l1 k2 l0 l1 a2 x8_1 x9_1 x10_1 (wrap64 (x11_2 + 1))) else (if x11_2 > x8_1 then (spec_l14Find.l0 k2 l0 l1 a2 x11_2 x10_1 (wrap64 (x10_1 + 1))) else (spec_l14Find.l0 k2 l0 l1 a2 x8_1 x9_1 (wrap64 (x10_1 + 1))))) else (none)) = some (r1, r2) := by first | (rw [hji10] at H; exact H) | (simp only [hji10] at H ⊢; exact H)
          (try rw [hji10] at c7b0); have hji10w : (IntKind.i64.wrap (a2 + x11_2)) = ji10 := (i64_w _).trans hji10; by_cases c11 : 0 ≤ (ji10)
          ·rw [if_pos c11] at H; have c11b0 : decide (0 ≤ (ji10)) = true := decide_eq_true c11; clear c11; by_cases c12 : (rd l0 (ji8)) = (rd l1 (ji10))
           ·rw [if_pos c12] at H; have c12b0 : ((rd l0 (ji8)) == (rd l1 (ji10))) = true := beq_iff_eq.mpr c12; have c12b1 : ((rd l0 (ji8)) != (rd l1 (ji10))) = false := bne_eq_false_iff_eq.mpr c12; clear c12; have H' := Aside0.mk H; clear H; have p101 : 0 ≤ ((ji8) : Int) := of_decide_eq_true zb2; have q101 : (ji8) < (l0.length : Int) := of_decide_eq_true zb2; obtain ⟨ad101, e101, hx101_0⟩ := Kd.at_int HR0.out (ji8) p101 q101; cases e101; replace p101 := eq_true p101; replace q101 := eq_true q101; have p102 : 0 ≤ ((ji10) : Int) := of_decide_eq_true zb2; have q102 : (ji10) < (l1.length : Int) := of_decide_eq_true zb2; obtain ⟨ad102, e102, hx102_0⟩ := Kd.at_int HR1.out (ji10) p102 q102; cases e102; replace p102 := eq_true p102; replace q102 := eq_true q102; go_wp2; (repeat (go_quiet (fail); try go_wp2)); go_roundg k2; (case measure => have := HK1.out; have := HK2.out; omega); case rel => exact ⟨(wrap64 (x11_2 + 1)), zb0, H', ⟨by have := HK1.out; have := HK2.out; omega⟩, zb1⟩
           ·rw [if_neg c12] at H; have c12b0 : ((rd l0 (ji8)) == (rd l1 (ji10))) = false := beq_eq_false_iff_ne.mpr c12; have c12b1 : ((rd l0 (ji8)) != (rd l1 (ji10))) = true := bne_iff_ne.mpr c12; by_cases c13 : x11_2 > x8_1
            ·rw [if_pos c13] at H; have c13b0 : decide (x8_1 < x11_2) = true := decide_eq_true c13; clear c13; have H' := Aside0.mk H; clear H; have p101 : 0 ≤ ((ji8) : Int) := of_decide_eq_true zb2; have q101 : (ji8) < (l0.length : Int) := of_decide_eq_true zb2; obtain ⟨ad101, e101, hx101_0⟩ := Kd.at_int HR0.out (ji8) p101 q101; cases e101; replace p101 := eq_true p101; replace q101 := eq_true q101; have p102 : 0 ≤ ((ji10) : Int) := of_decide_eq_true zb2; have q102 : (ji10) < (l1.length : Int) := of_decide_eq_true zb2; obtain ⟨ad102, e102, hx102_0⟩ := Kd.at_int HR1.out (ji10) p102 q102; cases e102; replace p102 := eq_true p102; replace q102 := eq_true q102; go_wp2; (repeat (go_quiet (fail); try go_wp2)); go_roundg k2; (case measure => have := HK1.out; have := HK2.out; omega); case rel => exact ⟨(x11_2), (x10_1), (wrap64 (x10_1 + 1)), zb0, zb0, zb0, H', ⟨by have := HK1.out; have := HK2.out; omega⟩, zb1⟩
            ·rw [if_neg c13] at H; have c13b0 : decide (x8_1 < x11_2) = false := decide_eq_false c13; clear c13; have H' := Aside0.mk H; clear H; have p101 : 0 ≤ ((ji8) : Int) := of_decide_eq_true zb2; have q101 : (ji8) < (l0.length : Int) := of_decide_eq_true zb2; obtain ⟨ad101, e101, hx101_0⟩ := Kd.at_int HR0.out (ji8) p101 q101; cases e101; replace p101 := eq_true p101; replace q101 := eq_true q101; have p102 : 0 ≤ ((ji10) : Int) := of_decide_eq_true zb2; have q102 : (ji10) < (l1.length : Int) := of_decide_eq_true zb2; obtain ⟨ad102, e102, hx102_0⟩ := Kd.at_int HR1.out (ji10) p102 q102; cases e102; replace p102 := eq_true p102; replace q102 := eq_true q102; go_wp2; (repeat (go_quiet (fail); try go_wp2)); go_roundg k2; (case measure => have := HK1.out; have := HK2.out; omega); case rel => exact ⟨(x8_1), (x9_1), (wrap64 (x10_1 + 1)), zb0, zb0, zb0, H', ⟨by have := HK1.out; have := HK2.out; omega⟩, zb1⟩
          ·rw [if_neg c11] at H; exact absurd H (by simp)
         ·rw [if_neg c9] at H; exact absurd H (by simp)
        ·rw [if_neg c7] at H; have c7b0 : decide ((wrap64 (a2 + x11_2)) < (l1.length : Int)) = false := decide_eq_false c7; clear c7; by_cases c14 : x11_2 > x8_1
         ·rw [if_pos c14] at H; have c14b0 : decide (x8_1 < x11_2) = true := decide_eq_true c14; clear c14; have H' := Aside0.mk H; clear H; go_wp2; (repeat (go_quiet (fail); try go_wp2)); go_roundg k2; (case measure => have := HK1.out; have := HK2.out; omega); case rel => exact ⟨(x11_2), (x10_1), (wrap64 (x10_1 + 1)), zb0, zb0, zb0, H', ⟨by have := HK1.out; have := HK2.out; omega⟩, zb1⟩
         ·rw [if_neg c14] at H; have c14b0 : decide (x8_1 < x11_2) = false := decide_eq_false c14; clear c14; have H' := Aside0.mk H; clear H; go_wp2; (repeat (go_quiet (fail); try go_wp2)); go_roundg k2; (case measure => have := HK1.out; have := HK2.out; omega); case rel => exact ⟨(x8_1), (x9_1), (wrap64 (x10_1 + 1)), zb0, zb0, zb0, H', ⟨by have := HK1.out; have := HK2.out; omega⟩, zb1⟩
       ·rw [if_neg c6] at H; have c6b0 : decide ((wrap64 (x10_1 + x11_2)) < (l0.length : Int)) = false := decide_eq_false c6; clear c6; by_cases c15 : x11_2 > x8_1
        ·rw [if_pos c15] at H; have c15b0 : decide (x8_1 < x11_2) = true := decide_eq_true c15; clear c15; have H' := Aside0.mk H; clear H; go_wp2; (repeat (go_quiet (fail); try go_wp2)); go_roundg k2; (case measure => have := HK1.out; have := HK2.out; omega); case rel => exact ⟨(x11_2), (x10_1), (wrap64 (x10_1 + 1)), zb0, zb0, zb0, H', ⟨by have := HK1.out; have := HK2.out; omega⟩, zb1⟩
        ·rw [if_neg c15] at H; have c15b0 : decide (x8_1 < x11_2) = false := decide_eq_false c15; clear c15; have H' := Aside0.mk H; clear H; go_wp2; (repeat (go_quiet (fail); try go_wp2)); go_roundg k2; (case measure => have := HK1.out; have := HK2.out; omega); case rel => exact ⟨(x8_1), (x9_1), (wrap64 (x10_1 + 1)), zb0, zb0, zb0, H', ⟨by have := HK1.out; have := HK2.out; omega⟩, zb1⟩
      ·rw [if_neg c5] at H; have c5b0 : decide (x11_2 < 1000) = false := decide_eq_false c5; clear c5; by_cases c16 : x11_2 > x8_1
       ·rw [if_pos c16] at H; have c16b0 : decide (x8_1 < x11_2) = true := decide_eq_true c16; clear c16; have H' := Aside0.mk H; clear H; go_wp2; (repeat (go_quiet (fail); try go_wp2)); go_roundg k2; (case measure => have := HK1.out; have := HK2.out; omega); case rel => exact ⟨(x11_2), (x10_1), (wrap64 (x10_1 + 1)), zb0, zb0, zb0, H', ⟨by have := HK1.out; have := HK2.out; omega⟩, zb1⟩
       ·rw [if_neg c16] at H; have c16b0 : decide (x8_1 < x11_2) = false := decide_eq_false c16; clear c16; have H' := Aside0.mk H; clear H; go_wp2; (repeat (go_quiet (fail); try go_wp2)); go_roundg k2; (case measure => have := HK1.out; have := HK2.out; omega); case rel => exact ⟨(x8_1), (x9_1), (wrap64 (x10_1 + 1)), zb0, zb0, zb0, H', ⟨by have := HK1.out; have := HK2.out; omega⟩, zb1⟩
   ·rw [if_neg c4] at H; have c4b0 : decide (x10_1 < (l0.length : Int)) = false := decide_eq_false c4; clear c4; simp only [Option.some.injEq, Prod.mk.injEq] at H; obtain ⟨rfl, rfl⟩ := H; go_wp2; (repeat (go_quiet (fail); try go_wp2)); go_ret2; exact ⟨zb0, zb1⟩

end Go.Proofs.Ytkijlpiiiejjkaa.PFnDeltaBack
