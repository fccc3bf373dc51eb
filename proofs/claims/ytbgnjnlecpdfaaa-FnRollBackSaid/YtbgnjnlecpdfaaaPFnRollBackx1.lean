-- Laid by a program of this session: a turned copy of the kit's print, with contracts by hand beside.
import Derived.Test.YtbgnjnlecpdfaaaPFnRollBackx0
namespace Go.Proofs.Ytbgnjnlecpdfaaa.PFnRollBack
open Go.RowKit Go.Proofs.YtbgnjnlecpdfaaaW.PrintWords Go.Proofs.YtbgnjnlecpdfaaaW.PrintLast Go.Proofs.YtbgnjnlecpdfaaaW.PrintMore
theorem zb0 {X : Prop} (h : X := by rfl) : X := h
theorem zb1 {X : Prop} (h : X := by repeat (first | exact Drawn0.refl _ | apply Drawn0.step)) : X := h
theorem zb2 {X : Prop} (h : X := by (with_reducible assumption)) : X := h
theorem zb3 {X : Prop} (h : X := by (simp only [List.map_toArray, List.map_cons, List.map_nil]); first | done | rfl | (simp only [List.length_drop, List.length_take]; rfl)) : X := h
theorem zb4 {X : Prop} (h : X := by (with_reducible repeat (first | refine blk_drewN ?_ _ | refine blk_drew ?_ | refine blk_alloc ?_ _)); exact BK103.out) : X := h
theorem zb5 {X : Prop} (h : X := by repeat ((with_reducible first | exact HB.out | apply below_alloc | apply pw_below_drewN | apply below_drew1 | refine below_set ?_ GE103.out))) : X := h
theorem zb6 {X : Prop} (h : X := by rfl) : X := h
attribute [local go_sem] max2_int min2_int max_two min_two max_three min_three max_four min_four   -- for this text's walks alone
set_option linter.unusedVariables false
set_option linter.unusedSimpArgs false

/-! ### spec_l1Letter: function 54 -/
def spec_l1Letter.f (a0 : Int) : Option (Bool) := if a0 ≥ 97 then (if a0 ≤ 122 then (some true) else (if a0 ≥ 65 then (some (decide (a0 ≤ 90))) else (some false))) else (if a0 ≥ 65 then (some (decide (a0 ≤ 90))) else (some false))
set_option maxHeartbeats 8000000 in
set_option maxRecDepth 100000 in
theorem spec_l1Letter.calls (a0 : Int) (r : Bool) (w : World) (h : spec_l1Letter.f a0 = some r) :
  Calls Try.prog 54 #[.int .u8 a0] w fun e w' => e = .returned (.bool r) ∧ Drawn0 w w' := by
 have H : (if a0 ≥ 97 then (if a0 ≤ 122 then (some true) else (if a0 ≥ 65 then (some (decide (a0 ≤ 90))) else (some false))) else (if a0 ≥ 65 then (some (decide (a0 ≤ 90))) else (some false))) = some r := h; clear h; by_cases c2 : a0 ≥ 97
 ·rw [if_pos c2] at H; have c2b0 : decide (97 ≤ a0) = true := decide_eq_true c2; clear c2; by_cases c3 : a0 ≤ 122
  ·rw [if_pos c3] at H; have c3b0 : decide (a0 ≤ 122) = true := decide_eq_true c3; clear c3; obtain rfl := Option.some.inj H; go_enter Try.func54, Try.ntmps54; go_wp2; go_ret; exact ⟨zb0, zb1⟩
  ·rw [if_neg c3] at H; have c3b0 : decide (a0 ≤ 122) = false := decide_eq_false c3; clear c3; by_cases c4 : a0 ≥ 65
   ·rw [if_pos c4] at H; have c4b0 : decide (65 ≤ a0) = true := decide_eq_true c4; clear c4; obtain rfl := Option.some.inj H; go_enter Try.func54, Try.ntmps54; go_wp2; go_ret; exact ⟨zb0, zb1⟩
   ·rw [if_neg c4] at H; have c4b0 : decide (65 ≤ a0) = false := decide_eq_false c4; clear c4; obtain rfl := Option.some.inj H; go_enter Try.func54, Try.ntmps54; go_wp2; go_ret; exact ⟨zb0, zb1⟩
 ·rw [if_neg c2] at H; have c2b0 : decide (97 ≤ a0) = false := decide_eq_false c2; clear c2; by_cases c5 : a0 ≥ 65
  ·rw [if_pos c5] at H; have c5b0 : decide (65 ≤ a0) = true := decide_eq_true c5; clear c5; obtain rfl := Option.some.inj H; go_enter Try.func54, Try.ntmps54; go_wp2; go_ret; exact ⟨zb0, zb1⟩
  ·rw [if_neg c5] at H; have c5b0 : decide (65 ≤ a0) = false := decide_eq_false c5; clear c5; obtain rfl := Option.some.inj H; go_enter Try.func54, Try.ntmps54; go_wp2; go_ret; exact ⟨zb0, zb1⟩

/-! ### spec_l1Digit: function 55 -/
def spec_l1Digit.f (a0 : Int) : Option (Bool) := if a0 ≥ 48 then (some (decide (a0 ≤ 57))) else (some false)
set_option maxHeartbeats 8000000 in
set_option maxRecDepth 100000 in
theorem spec_l1Digit.calls (a0 : Int) (r : Bool) (w : World) (h : spec_l1Digit.f a0 = some r) :
  Calls Try.prog 55 #[.int .u8 a0] w fun e w' => e = .returned (.bool r) ∧ Drawn0 w w' := by
 have H : (if a0 ≥ 48 then (some (decide (a0 ≤ 57))) else (some false)) = some r := h; clear h; by_cases c2 : a0 ≥ 48
 ·rw [if_pos c2] at H; have c2b0 : decide (48 ≤ a0) = true := decide_eq_true c2; clear c2; obtain rfl := Option.some.inj H; go_enter Try.func55, Try.ntmps55; go_wp2; go_ret; exact ⟨zb0, zb1⟩
 ·rw [if_neg c2] at H; have c2b0 : decide (48 ≤ a0) = false := decide_eq_false c2; clear c2; obtain rfl := Option.some.inj H; go_enter Try.func55, Try.ntmps55; go_wp2; go_ret; exact ⟨zb0, zb1⟩

/-! ### spec_NameOk: function 30 -/
mutual
def spec_NameOk.j0 : Nat → ByteArray → Bool → Option (Bool)
 | 0, _, _ => none
 | k + 1, x0, x17 => if x17 = true then (some false) else (spec_NameOk.l0 k x0 0)
def spec_NameOk.l0 : Nat → ByteArray → Int → Option (Bool)
 | 0, _, _ => none
 | k + 1, x0, x3 => if x3 < (x0.size : Int) then (if 0 ≤ x3 then ((spec_l1Letter.f (bt x0 x3)).bind fun t101 => (if t101 = true then (spec_NameOk.l0 k x0 (wrap64 (x3 + 1))) else ((spec_l1Digit.f (bt x0 x3)).bind fun t102 => (if t102 = true then (spec_NameOk.l0 k x0 (wrap64 (x3 + 1))) else (if (bt x0 x3) = 45 then (spec_NameOk.l0 k x0 (wrap64 (x3 + 1))) else (if (bt x0 x3) = 95 then (spec_NameOk.l0 k x0 (wrap64 (x3 + 1))) else (if (bt x0 x3) = 46 then (spec_NameOk.l0 k x0 (wrap64 (x3 + 1))) else (if (bt x0 x3) = 43 then (spec_NameOk.l0 k x0 (wrap64 (x3 + 1))) else (some false))))))))) else (none)) else (some true)
end
def spec_NameOk.f (k : Nat) (a0 : ByteArray) : Option (Bool) := if (a0.size : Int) < 1 then (spec_NameOk.j0 k a0 true) else (if (a0.size : Int) > 60 then (spec_NameOk.j0 k a0 true) else (if 0 < (a0.size : Int) then (spec_NameOk.j0 k a0 ((bt a0 0) == 46)) else (none)))
theorem spec_NameOk.mono_l : ∀ k, (∀ y0 y1, LeO (spec_NameOk.j0 k y0 y1) (spec_NameOk.j0 (k + 1) y0 y1)) ∧ (∀ y0 y1, LeO (spec_NameOk.l0 k y0 y1) (spec_NameOk.l0 (k + 1) y0 y1))
 | 0 => ⟨fun _ _ r h => by simp [spec_NameOk.j0] at h, fun _ _ r h => by simp [spec_NameOk.l0] at h⟩
 | k + 1 => by
  obtain ⟨ih0, ih1⟩ := spec_NameOk.mono_l k; refine ⟨?_, ?_⟩ <;> intros <;> (first | unfold spec_NameOk.j0 | unfold spec_NameOk.l0) <;>
   repeat' first
   | (with_reducible exact ih0 _ _)
   | (with_reducible exact ih1 _ _)
   | (with_reducible exact LeO.refl _)
   | (with_reducible exact LeO.none _)
   | (with_reducible refine LeO.ite ?_ ?_)
   | (with_reducible refine LeO.bind ?_ (fun _ => ?_))
   | exact ih0 _ _
   | exact ih1 _ _
   | exact LeO.none _
   | refine LeO.ite ?_ ?_
   | refine LeO.bind ?_ (fun _ => ?_)
theorem spec_NameOk.mono : ∀ a0 k, LeO (spec_NameOk.f k a0) (spec_NameOk.f (k + 1) a0) := by
 intro a0 k; obtain ⟨ih0, ih1⟩ := spec_NameOk.mono_l k; unfold spec_NameOk.f
 repeat' first
   | (with_reducible exact ih0 _ _)
   | (with_reducible exact ih1 _ _)
   | (with_reducible exact LeO.refl _)
   | (with_reducible exact LeO.none _)
   | (with_reducible refine LeO.ite ?_ ?_)
   | (with_reducible refine LeO.bind ?_ (fun _ => ?_))
   | exact ih0 _ _
   | exact ih1 _ _
   | exact LeO.none _
   | refine LeO.ite ?_ ?_
   | refine LeO.bind ?_ (fun _ => ?_)
set_option maxHeartbeats 8000000 in
set_option maxRecDepth 100000 in
theorem spec_NameOk.calls (k : Nat) (a0 : ByteArray) (r : Bool) (w : World) (h : spec_NameOk.f k a0 = some r) :
  Calls Try.prog 30 #[.string a0] w fun e w' => e = .returned (.bool r) ∧ Drawn0 w w' := by
 have H : (if (a0.size : Int) < 1 then (spec_NameOk.j0 k a0 true) else (if (a0.size : Int) > 60 then (spec_NameOk.j0 k a0 true) else (if 0 < (a0.size : Int) then (spec_NameOk.j0 k a0 ((bt a0 0) == 46)) else (none)))) = some r := h; clear h; have HC2 := Aside0.mk H; clear H; go_enter Try.func30, Try.ntmps30; go_upto_region 1 with (fail); go_cut [17] (fun v17 wc => ∃ (kq : Nat) (x17_1 : Bool), v17 = .bool x17_1 ∧ Aside0 (spec_NameOk.j0 kq a0 x17_1 = some r) ∧ Aside0 (kq ≤ k) ∧ Drawn0 w wc); case first =>
  have H := HC2.out; clear HC2; by_cases c3 : (a0.size : Int) < 1
  ·rw [if_pos c3] at H; have c3b0 : decide ((a0.size : Int) < 1) = true := decide_eq_true c3; have c3b1 : decide (a0.size < 1) = true := decide_eq_true (by omega); clear c3; (skip); have H' := Aside0.mk H; clear H; go_wp2; go_meet; case rel => exact ⟨_, (true), zb0, H', ⟨by omega⟩, zb1⟩
  ·rw [if_neg c3] at H; have c3b0 : decide ((a0.size : Int) < 1) = false := decide_eq_false c3; have c3b1 : decide (a0.size < 1) = false := decide_eq_false (by omega); clear c3; (skip); by_cases c4 : (a0.size : Int) > 60
   ·rw [if_pos c4] at H; have c4b0 : decide (60 < (a0.size : Int)) = true := decide_eq_true c4; have c4b1 : decide (60 < a0.size) = true := decide_eq_true (by omega); clear c4; have H' := Aside0.mk H; clear H; go_wp2; go_meet; case rel => exact ⟨_, (true), zb0, H', ⟨by omega⟩, zb1⟩
   ·rw [if_neg c4] at H; have c4b0 : decide (60 < (a0.size : Int)) = false := decide_eq_false c4; have c4b1 : decide (60 < a0.size) = false := decide_eq_false (by omega); clear c4; by_cases c5 : 0 < (a0.size : Int)
    ·rw [if_pos c5] at H; have c5b0 : decide (0 < (a0.size : Int)) = true := decide_eq_true c5; have c5b1 : decide (0 < a0.size) = true := decide_eq_true (by omega); clear c5; have H' := Aside0.mk H; clear H; have p6 : 0 ≤ (0 : Int) := (by omega); have q6 : 0 < a0.size := (by have : (0 : Int) < (a0.size : Int) := of_decide_eq_true (by (with_reducible assumption)); omega); have hx6 : ∀ h : 0 < a0.size, ((a0[0]'h).toNat : Int) = bt a0 0 := bt_at a0 0; clear p6; have qi6 : (0 < (a0.size : Int)) = True := eq_true (of_decide_eq_true zb2); replace q6 := eq_true q6; go_wp2; go_meet; case rel => exact ⟨_, (((bt a0 0) == 46)), zb0, H', ⟨by omega⟩, zb1⟩
    ·rw [if_neg c5] at H; exact absurd H (by simp)
 case rest =>
  clear HC2; obtain ⟨kq, x17_1, rfl, HA, HJ1, ⟨mc1, rfl⟩⟩ := hcut
  cases kq with
  | zero => exact absurd HA.out (by simp [spec_NameOk.j0])
  | succ kj1 =>
   have H := HA.out; clear HA; simp only [spec_NameOk.j0] at H; by_cases c7 : x17_1 = true
   ·subst c7; rw [if_pos rfl] at H; obtain rfl := Option.some.inj H; go_wp2; go_ret; exact ⟨zb0, zb1⟩
   ·replace c7 := Bool.eq_false_iff.mpr c7; subst c7; rw [if_neg (show ¬ (false = true) by decide)] at H; have H' := Aside0.mk H; clear H; go_wp2; go_loopg [3] kj1 (fun kq v3 w' => ∃ (x3_2 : Int), v3 = .int .i64 x3_2 ∧ Aside0 (spec_NameOk.l0 kq a0 x3_2 = some r) ∧ Aside0 (kq ≤ kj1) ∧ Drawn0 w w'); (case atStart => exact ⟨(0), zb0, H', ⟨Nat.le_refl _⟩, zb1⟩); case round =>
     clear H'; obtain ⟨x3_2, rfl, HA, HK2, ⟨m2, rfl⟩⟩ := hrel
     cases gk with
     | zero => exact absurd HA.out (by simp [spec_NameOk.l0])
     | succ k2 =>
      have H := HA.out; clear HA; simp only [spec_NameOk.l0] at H; by_cases c8 : x3_2 < (a0.size : Int)
      ·rw [if_pos c8] at H; have c8b0 : decide (x3_2 < (a0.size : Int)) = true := decide_eq_true c8; clear c8; by_cases c9 : 0 ≤ x3_2
       ·rw [if_pos c9] at H; have c9b0 : decide (0 ≤ x3_2) = true := decide_eq_true c9; clear c9; replace H := Option.bind_eq_some_iff.mp H; obtain ⟨t101, A110, H⟩ := H; have A11 := Aside0.mk A110; clear A110; by_cases c12 : t101 = true
        ·subst c12; rw [if_pos rfl] at H; have H' := Aside0.mk H; clear H; have p10 : 0 ≤ (x3_2 : Int) := of_decide_eq_true zb2; have q10 : x3_2 < (a0.size : Int) := of_decide_eq_true zb2; have hx10 := bt_at a0 x3_2; replace p10 := eq_true p10; replace q10 := eq_true q10; go_wp2_with (first | ((with_reducible refine gate_callee (f := 54) rfl ?_); refine goesL_ (some 28) rfl rfl Try.func54 (by kernel_rfl) rfl #[.int .u8 (bt a0 x3_2)] rfl zb3 ?_; (with_reducible refine (spec_l1Letter.calls (bt a0 x3_2) true _ A11.out).mono ?_); rintro e w' ⟨rfl, ⟨nd, rfl⟩⟩; refine ⟨_, rfl, ?_⟩)); go_roundg k2; (case measure => have := HJ1.out; have := HK2.out; omega); case rel => exact ⟨(wrap64 (x3_2 + 1)), zb0, H', ⟨by have := HJ1.out; have := HK2.out; omega⟩, zb1⟩
        ·replace c12 := Bool.eq_false_iff.mpr c12; subst c12; rw [if_neg (show ¬ (false = true) by decide)] at H; replace H := Option.bind_eq_some_iff.mp H; obtain ⟨t102, A130, H⟩ := H; have A13 := Aside0.mk A130; clear A130; by_cases c14 : t102 = true
         ·subst c14; rw [if_pos rfl] at H; have H' := Aside0.mk H; clear H; have p10 : 0 ≤ (x3_2 : Int) := of_decide_eq_true zb2; have q10 : x3_2 < (a0.size : Int) := of_decide_eq_true zb2; have hx10 := bt_at a0 x3_2; replace p10 := eq_true p10; replace q10 := eq_true q10; go_wp2_with (first | ((with_reducible refine gate_callee (f := 54) rfl ?_); refine goesL_ (some 28) rfl rfl Try.func54 (by kernel_rfl) rfl #[.int .u8 (bt a0 x3_2)] rfl zb3 ?_; (with_reducible refine (spec_l1Letter.calls (bt a0 x3_2) false _ A11.out).mono ?_); rintro e w' ⟨rfl, ⟨nd, rfl⟩⟩; refine ⟨_, rfl, ?_⟩) | (go_at_call 55; (with_reducible refine (spec_l1Digit.calls (bt a0 x3_2) true _ A13.out).mono ?_); rintro e w' ⟨rfl, ⟨nd, rfl⟩⟩)); go_roundg k2; (case measure => have := HJ1.out; have := HK2.out; omega); case rel => exact ⟨(wrap64 (x3_2 + 1)), zb0, H', ⟨by have := HJ1.out; have := HK2.out; omega⟩, zb1⟩
         ·replace c14 := Bool.eq_false_iff.mpr c14; subst c14; rw [if_neg (show ¬ (false = true) by decide)] at H; by_cases c15 : (bt a0 x3_2) = 45
          ·rw [if_pos c15] at H; have c15b0 : ((bt a0 x3_2) == 45) = true := beq_iff_eq.mpr c15; have c15b1 : ((bt a0 x3_2) != 45) = false := bne_eq_false_iff_eq.mpr c15; clear c15; have H' := Aside0.mk H; clear H; have p10 : 0 ≤ (x3_2 : Int) := of_decide_eq_true zb2; have q10 : x3_2 < (a0.size : Int) := of_decide_eq_true zb2; have hx10 := bt_at a0 x3_2; replace p10 := eq_true p10; replace q10 := eq_true q10; go_wp2_with (first | ((with_reducible refine gate_callee (f := 54) rfl ?_); refine goesL_ (some 28) rfl rfl Try.func54 (by kernel_rfl) rfl #[.int .u8 (bt a0 x3_2)] rfl zb3 ?_; (with_reducible refine (spec_l1Letter.calls (bt a0 x3_2) false _ A11.out).mono ?_); rintro e w' ⟨rfl, ⟨nd, rfl⟩⟩; refine ⟨_, rfl, ?_⟩) | (go_at_call 55; (with_reducible refine (spec_l1Digit.calls (bt a0 x3_2) false _ A13.out).mono ?_); rintro e w' ⟨rfl, ⟨nd, rfl⟩⟩)); go_roundg k2; (case measure => have := HJ1.out; have := HK2.out; omega); case rel => exact ⟨(wrap64 (x3_2 + 1)), zb0, H', ⟨by have := HJ1.out; have := HK2.out; omega⟩, zb1⟩
          ·rw [if_neg c15] at H; have c15b0 : ((bt a0 x3_2) == 45) = false := beq_eq_false_iff_ne.mpr c15; have c15b1 : ((bt a0 x3_2) != 45) = true := bne_iff_ne.mpr c15; by_cases c16 : (bt a0 x3_2) = 95
           ·rw [if_pos c16] at H; have c16b0 : ((bt a0 x3_2) == 95) = true := beq_iff_eq.mpr c16; have c16b1 : ((bt a0 x3_2) != 95) = false := bne_eq_false_iff_eq.mpr c16; clear c16; have H' := Aside0.mk H; clear H; have p10 : 0 ≤ (x3_2 : Int) := of_decide_eq_true zb2; have q10 : x3_2 < (a0.size : Int) := of_decide_eq_true zb2; have hx10 := bt_at a0 x3_2; replace p10 := eq_true p10; replace q10 := eq_true q10; go_wp2_with (first | ((with_reducible refine gate_callee (f := 54) rfl ?_); refine goesL_ (some 28) rfl rfl Try.func54 (by kernel_rfl) rfl #[.int .u8 (bt a0 x3_2)] rfl zb3 ?_; (with_reducible refine (spec_l1Letter.calls (bt a0 x3_2) false _ A11.out).mono ?_); rintro e w' ⟨rfl, ⟨nd, rfl⟩⟩; refine ⟨_, rfl, ?_⟩) | (go_at_call 55; (with_reducible refine (spec_l1Digit.calls (bt a0 x3_2) false _ A13.out).mono ?_); rintro e w' ⟨rfl, ⟨nd, rfl⟩⟩)); go_roundg k2; (case measure => have := HJ1.out; have := HK2.out; omega); case rel => exact ⟨(wrap64 (x3_2 + 1)), zb0, H', ⟨by have := HJ1.out; have := HK2.out; omega⟩, zb1⟩
           ·rw [if_neg c16] at H; have c16b0 : ((bt a0 x3_2) == 95) = false := beq_eq_false_iff_ne.mpr c16; have c16b1 : ((bt a0 x3_2) != 95) = true := bne_iff_ne.mpr c16; by_cases c17 : (bt a0 x3_2) = 46
            ·rw [if_pos c17] at H; have c17b0 : ((bt a0 x3_2) == 46) = true := beq_iff_eq.mpr c17; have c17b1 : ((bt a0 x3_2) != 46) = false := bne_eq_false_iff_eq.mpr c17; clear c17; have H' := Aside0.mk H; clear H; have p10 : 0 ≤ (x3_2 : Int) := of_decide_eq_true zb2; have q10 : x3_2 < (a0.size : Int) := of_decide_eq_true zb2; have hx10 := bt_at a0 x3_2; replace p10 := eq_true p10; replace q10 := eq_true q10; go_wp2_with (first | ((with_reducible refine gate_callee (f := 54) rfl ?_); refine goesL_ (some 28) rfl rfl Try.func54 (by kernel_rfl) rfl #[.int .u8 (bt a0 x3_2)] rfl zb3 ?_; (with_reducible refine (spec_l1Letter.calls (bt a0 x3_2) false _ A11.out).mono ?_); rintro e w' ⟨rfl, ⟨nd, rfl⟩⟩; refine ⟨_, rfl, ?_⟩) | (go_at_call 55; (with_reducible refine (spec_l1Digit.calls (bt a0 x3_2) false _ A13.out).mono ?_); rintro e w' ⟨rfl, ⟨nd, rfl⟩⟩)); go_roundg k2; (case measure => have := HJ1.out; have := HK2.out; omega); case rel => exact ⟨(wrap64 (x3_2 + 1)), zb0, H', ⟨by have := HJ1.out; have := HK2.out; omega⟩, zb1⟩
            ·rw [if_neg c17] at H; have c17b0 : ((bt a0 x3_2) == 46) = false := beq_eq_false_iff_ne.mpr c17; have c17b1 : ((bt a0 x3_2) != 46) = true := bne_iff_ne.mpr c17; by_cases c18 : (bt a0 x3_2) = 43
             ·rw [if_pos c18] at H; have c18b0 : ((bt a0 x3_2) == 43) = true := beq_iff_eq.mpr c18; have c18b1 : ((bt a0 x3_2) != 43) = false := bne_eq_false_iff_eq.mpr c18; clear c18; have H' := Aside0.mk H; clear H; have p10 : 0 ≤ (x3_2 : Int) := of_decide_eq_true zb2; have q10 : x3_2 < (a0.size : Int) := of_decide_eq_true zb2; have hx10 := bt_at a0 x3_2; replace p10 := eq_true p10; replace q10 := eq_true q10; go_wp2_with (first | ((with_reducible refine gate_callee (f := 54) rfl ?_); refine goesL_ (some 28) rfl rfl Try.func54 (by kernel_rfl) rfl #[.int .u8 (bt a0 x3_2)] rfl zb3 ?_; (with_reducible refine (spec_l1Letter.calls (bt a0 x3_2) false _ A11.out).mono ?_); rintro e w' ⟨rfl, ⟨nd, rfl⟩⟩; refine ⟨_, rfl, ?_⟩) | (go_at_call 55; (with_reducible refine (spec_l1Digit.calls (bt a0 x3_2) false _ A13.out).mono ?_); rintro e w' ⟨rfl, ⟨nd, rfl⟩⟩)); go_roundg k2; (case measure => have := HJ1.out; have := HK2.out; omega); case rel => exact ⟨(wrap64 (x3_2 + 1)), zb0, H', ⟨by have := HJ1.out; have := HK2.out; omega⟩, zb1⟩
             ·rw [if_neg c18] at H; have c18b0 : ((bt a0 x3_2) == 43) = false := beq_eq_false_iff_ne.mpr c18; have c18b1 : ((bt a0 x3_2) != 43) = true := bne_iff_ne.mpr c18; obtain rfl := Option.some.inj H; have p10 : 0 ≤ (x3_2 : Int) := of_decide_eq_true zb2; have q10 : x3_2 < (a0.size : Int) := of_decide_eq_true zb2; have hx10 := bt_at a0 x3_2; replace p10 := eq_true p10; replace q10 := eq_true q10; go_wp2_with (first | ((with_reducible refine gate_callee (f := 54) rfl ?_); refine goesL_ (some 28) rfl rfl Try.func54 (by kernel_rfl) rfl #[.int .u8 (bt a0 x3_2)] rfl zb3 ?_; (with_reducible refine (spec_l1Letter.calls (bt a0 x3_2) false _ A11.out).mono ?_); rintro e w' ⟨rfl, ⟨nd, rfl⟩⟩; refine ⟨_, rfl, ?_⟩) | (go_at_call 55; (with_reducible refine (spec_l1Digit.calls (bt a0 x3_2) false _ A13.out).mono ?_); rintro e w' ⟨rfl, ⟨nd, rfl⟩⟩)); go_ret; exact ⟨zb0, zb1⟩
       ·rw [if_neg c9] at H; exact absurd H (by simp)
      ·rw [if_neg c8] at H; have c8b0 : decide (x3_2 < (a0.size : Int)) = false := decide_eq_false c8; clear c8; obtain rfl := Option.some.inj H; go_wp2; go_ret; exact ⟨zb0, zb1⟩

/-! ### spec_l13Gen: function 31 -/
def spec_l13Gen.l0 : Nat → Int → Int → ByteArray → Int → List (S56) → Option (Int)
 | 0, _, _, _, _, _ => none
 | k + 1, x1, x5, x104000, x104001, x104002 => if x5 < (x104002.length : Int) then (if 0 ≤ x5 then (if ((rd_T56 x104002 x5).f0) = x1 then (some x5) else (spec_l13Gen.l0 k x1 (wrap64 (x5 + 1)) x104000 x104001 x104002)) else (none)) else (some (-1))
def spec_l13Gen.f (k : Nat) (a0_0 : ByteArray) (a0_1 : Int) (l0_2 : List (S56)) (a1 : Int) : Option (Int) := spec_l13Gen.l0 k a1 0 a0_0 a0_1 l0_2
theorem spec_l13Gen.mono_l : ∀ k, (∀ y0 y1 y2 y3 y4, LeO (spec_l13Gen.l0 k y0 y1 y2 y3 y4) (spec_l13Gen.l0 (k + 1) y0 y1 y2 y3 y4))
 | 0 => fun _ _ _ _ _ r h => by simp [spec_l13Gen.l0] at h
 | k + 1 => by
  have ih0 := spec_l13Gen.mono_l k
  ·intro y0 y1 y2 y3 y4; unfold spec_l13Gen.l0
   repeat' first
   | (with_reducible exact ih0 _ _ _ _ _)
   | (with_reducible exact LeO.refl _)
   | (with_reducible exact LeO.none _)
   | (with_reducible refine LeO.ite ?_ ?_)
   | (with_reducible refine LeO.bind ?_ (fun _ => ?_))
   | exact ih0 _ _ _ _ _
   | exact LeO.none _
   | refine LeO.ite ?_ ?_
   | refine LeO.bind ?_ (fun _ => ?_)
theorem spec_l13Gen.mono : ∀ a0 a1 a2 a3 k, LeO (spec_l13Gen.f k a0 a1 a2 a3) (spec_l13Gen.f (k + 1) a0 a1 a2 a3) := by
 intro a0 a1 a2 a3 k; have ih0 := spec_l13Gen.mono_l k; unfold spec_l13Gen.f
 repeat' first
   | (with_reducible exact ih0 _ _ _ _ _)
   | (with_reducible exact LeO.refl _)
   | (with_reducible exact LeO.none _)
   | (with_reducible refine LeO.ite ?_ ?_)
   | (with_reducible refine LeO.bind ?_ (fun _ => ?_))
   | exact ih0 _ _ _ _ _
   | exact LeO.none _
   | refine LeO.ite ?_ ?_
   | refine LeO.bind ?_ (fun _ => ?_)
set_option maxHeartbeats 8000000 in
set_option maxRecDepth 100000 in
theorem spec_l13Gen.calls (k : Nat) (a0_0 : ByteArray) (a0_1 : Int) (A0_2 : Option Addr) (c0_2 : Nat) (l0_2 : List (S56)) (a1 : Int) (r : Int) (w : World) (hr0_2 : Kd.C k56 w A0_2 l0_2.length l0_2) (hc0_2 : l0_2.length ≤ c0_2) (h : spec_l13Gen.f k a0_0 a0_1 l0_2 a1 = some r) :
  Calls Try.prog 31 #[.agg #[.string a0_0, .int .i64 a0_1, .slice A0_2 l0_2.length c0_2], .int .i64 a1] w fun e w' => e = .returned (.int .i64 r) ∧ Below w.heap.size w w' := by
 have hu52 := Try.underlying52; have HR0_2 := Aside0.mk hr0_2; have HC0_2 := Aside0.mk hc0_2; clear hr0_2 hc0_2; have HB := Aside0.mk (Below.refl w.heap.size w); have H : (spec_l13Gen.l0 k a1 0 a0_0 a0_1 l0_2) = some r := h; clear h; have H' := Aside0.mk H; clear H; go_enter Try.func31, Try.ntmps31; go_wp2_with (first | ((with_reducible refine gate_dst (N := 2) rfl ?_); refine box_event ?hg (N := 2) ?hd (cs := #[.string a0_0, .int .i64 a0_1, .slice A0_2 l0_2.length c0_2]) (t := 52) ?hr ?_; (case hd => rfl); (case hg => rfl); (case hr => first | (go_simp; done) | (go_simp; rfl)); intro gb103 hg w3 hbox hb; have BK103 := Aside0.mk (hbox); have GW103 := Aside0.mk ((by rw [hg]; exact (below_size qB) : w.heap.size ≤ gb103)); have GE103 := Aside0.mk ((by rw [hg]; exact (below_size qB) : w.heap.size ≤ gb103)); replace HB := Aside0.mk (below_step qB hb); clear hb hbox hg)); go_loopg [5] k (fun kq v5 w' => ∃ (x5_1 : Int), v5 = .int .i64 x5_1 ∧ Aside0 (spec_l13Gen.l0 kq a1 x5_1 a0_0 a0_1 l0_2 = some r) ∧ Aside0 (kq ≤ k) ∧ Aside0 (w'.heap[gb103]? = some (.cells #[.string a0_0, .int .i64 a0_1, (.slice A0_2 l0_2.length c0_2)] 52 (0, 0))) ∧ Aside0 (Below w.heap.size w w')); (case atStart => exact ⟨(0), zb0, H', ⟨Nat.le_refl _⟩, ⟨zb4⟩, ⟨zb5⟩⟩); case round =>
  clear H'; obtain ⟨x5_1, rfl, HA, HK1, BK103, HB⟩ := hrel
  cases gk with
  | zero => exact absurd HA.out (by simp [spec_l13Gen.l0])
  | succ k1 =>
   have H := HA.out; clear HA; simp only [spec_l13Gen.l0] at H; by_cases c4 : x5_1 < (l0_2.length : Int)
   ·rw [if_pos c4] at H; have c4b0 : decide (x5_1 < (l0_2.length : Int)) = true := decide_eq_true c4; clear c4; by_cases c5 : 0 ≤ x5_1
    ·rw [if_pos c5] at H; have c5b0 : decide (0 ≤ x5_1) = true := decide_eq_true c5; clear c5; by_cases c6 : ((rd_T56 l0_2 x5_1).f0) = a1
     ·rw [if_pos c6] at H; have c6b0 : (((rd_T56 l0_2 x5_1).f0) == a1) = true := beq_iff_eq.mpr c6; have c6b1 : (((rd_T56 l0_2 x5_1).f0) != a1) = false := bne_eq_false_iff_eq.mpr c6; clear c6; obtain rfl := Option.some.inj H; have hcz7_0 : wr.cell? ⟨gb103, 0, none⟩ = some (.string a0_0) := (blk_cell BK103.out 0).trans rfl; have hcz7_1 : wr.cell? ⟨gb103, 1, none⟩ = some (.int .i64 a0_1) := (blk_cell BK103.out 1).trans rfl; have hcz7_2 : wr.cell? ⟨gb103, 2, none⟩ = some (.slice A0_2 l0_2.length c0_2) := (blk_cell BK103.out 2).trans rfl; have hfz7_0 := blk_frozen BK103.out 0; have hfz7_1 := blk_frozen BK103.out 1; have hfz7_2 := blk_frozen BK103.out 2; have p104 : 0 ≤ (x5_1 : Int) := of_decide_eq_true zb2; have q104 : x5_1 < (l0_2.length : Int) := of_decide_eq_true zb2; obtain ⟨ad104, e104, hx104_0, hx104_1⟩ := at_T56 HR0_2.out x5_1 p104 q104; cases e104; ((replace hx104_0 := (HB.out.cell (World.block_lt_of_cell? w _ hx104_0)).trans hx104_0)); ((replace hx104_1 := (HB.out.cell (World.block_lt_of_cell? w _ hx104_1)).trans hx104_1)); replace p104 := eq_true p104; replace q104 := eq_true q104; go_wp2; go_ret; exact ⟨zb6, zb5⟩
     ·rw [if_neg c6] at H; have c6b0 : (((rd_T56 l0_2 x5_1).f0) == a1) = false := beq_eq_false_iff_ne.mpr c6; have c6b1 : (((rd_T56 l0_2 x5_1).f0) != a1) = true := bne_iff_ne.mpr c6; have H' := Aside0.mk H; clear H; have hcz8_0 : wr.cell? ⟨gb103, 0, none⟩ = some (.string a0_0) := (blk_cell BK103.out 0).trans rfl; have hcz8_1 : wr.cell? ⟨gb103, 1, none⟩ = some (.int .i64 a0_1) := (blk_cell BK103.out 1).trans rfl; have hcz8_2 : wr.cell? ⟨gb103, 2, none⟩ = some (.slice A0_2 l0_2.length c0_2) := (blk_cell BK103.out 2).trans rfl; have hfz8_0 := blk_frozen BK103.out 0; have hfz8_1 := blk_frozen BK103.out 1; have hfz8_2 := blk_frozen BK103.out 2; have p104 : 0 ≤ (x5_1 : Int) := of_decide_eq_true zb2; have q104 : x5_1 < (l0_2.length : Int) := of_decide_eq_true zb2; obtain ⟨ad104, e104, hx104_0, hx104_1⟩ := at_T56 HR0_2.out x5_1 p104 q104; cases e104; ((replace hx104_0 := (HB.out.cell (World.block_lt_of_cell? w _ hx104_0)).trans hx104_0)); ((replace hx104_1 := (HB.out.cell (World.block_lt_of_cell? w _ hx104_1)).trans hx104_1)); replace p104 := eq_true p104; replace q104 := eq_true q104; go_wp2; go_roundg k1; (case measure => have := HK1.out; omega); case rel => exact ⟨(wrap64 (x5_1 + 1)), zb0, H', ⟨by have := HK1.out; omega⟩, ⟨zb4⟩, ⟨zb5⟩⟩
    ·rw [if_neg c5] at H; exact absurd H (by simp)
   ·rw [if_neg c4] at H; have c4b0 : decide (x5_1 < (l0_2.length : Int)) = false := decide_eq_false c4; clear c4; obtain rfl := Option.some.inj H; have hcz9_0 : wr.cell? ⟨gb103, 0, none⟩ = some (.string a0_0) := (blk_cell BK103.out 0).trans rfl; have hcz9_1 : wr.cell? ⟨gb103, 1, none⟩ = some (.int .i64 a0_1) := (blk_cell BK103.out 1).trans rfl; have hcz9_2 : wr.cell? ⟨gb103, 2, none⟩ = some (.slice A0_2 l0_2.length c0_2) := (blk_cell BK103.out 2).trans rfl; have hfz9_0 := blk_frozen BK103.out 0; have hfz9_1 := blk_frozen BK103.out 1; have hfz9_2 := blk_frozen BK103.out 2; go_wp2; go_ret; exact ⟨zb6, zb5⟩

/-! ### spec_l1Index: function 67 -/
def spec_l1Index.l0 : Nat → Int → Int → Option (Int)
 | 0, _, _ => none
 | k + 1, x0, x3 => if x3 < 32 then (if 0 ≤ x3 then (if (bt (⟨#[48, 49, 50, 51, 52, 53, 54, 55, 56, 57, 97, 98, 99, 100, 102, 103, 104, 105, 106, 107, 108, 109, 110, 112, 113, 114, 115, 118, 119, 120, 121, 122]⟩ : ByteArray) x3) = x0 then (some x3) else (spec_l1Index.l0 k x0 (wrap64 (x3 + 1)))) else (none)) else (some (-1))
def spec_l1Index.f (k : Nat) (a0 : Int) : Option (Int) := spec_l1Index.l0 k a0 0
theorem spec_l1Index.mono_l : ∀ k, (∀ y0 y1, LeO (spec_l1Index.l0 k y0 y1) (spec_l1Index.l0 (k + 1) y0 y1))
 | 0 => fun _ _ r h => by simp [spec_l1Index.l0] at h
 | k + 1 => by
  have ih0 := spec_l1Index.mono_l k
  ·intro y0 y1; unfold spec_l1Index.l0
   repeat' first
   | (with_reducible exact ih0 _ _)
   | (with_reducible exact LeO.refl _)
   | (with_reducible exact LeO.none _)
   | (with_reducible refine LeO.ite ?_ ?_)
   | (with_reducible refine LeO.bind ?_ (fun _ => ?_))
   | exact ih0 _ _
   | exact LeO.none _
   | refine LeO.ite ?_ ?_
   | refine LeO.bind ?_ (fun _ => ?_)
theorem spec_l1Index.mono : ∀ a0 k, LeO (spec_l1Index.f k a0) (spec_l1Index.f (k + 1) a0) := by
 intro a0 k; have ih0 := spec_l1Index.mono_l k; unfold spec_l1Index.f
 repeat' first
   | (with_reducible exact ih0 _ _)
   | (with_reducible exact LeO.refl _)
   | (with_reducible exact LeO.none _)
   | (with_reducible refine LeO.ite ?_ ?_)
   | (with_reducible refine LeO.bind ?_ (fun _ => ?_))
   | exact ih0 _ _
   | exact LeO.none _
   | refine LeO.ite ?_ ?_
   | refine LeO.bind ?_ (fun _ => ?_)
set_option maxHeartbeats 8000000 in
set_option maxRecDepth 100000 in
theorem spec_l1Index.calls (k : Nat) (a0 : Int) (r : Int) (w : World) (h : spec_l1Index.f k a0 = some r) :
  Calls Try.prog 67 #[.int .u8 a0] w fun e w' => e = .returned (.int .i64 r) ∧ Drawn0 w w' := by
 have H : (spec_l1Index.l0 k a0 0) = some r := h; clear h; have H' := Aside0.mk H; clear H; go_enter Try.func67, Try.ntmps67; go_wp2; go_loopg [3] k (fun kq v3 w' => ∃ (x3_1 : Int), v3 = .int .i64 x3_1 ∧ Aside0 (spec_l1Index.l0 kq a0 x3_1 = some r) ∧ Aside0 (kq ≤ k) ∧ Drawn0 w w'); (case atStart => exact ⟨(0), zb0, H', ⟨Nat.le_refl _⟩, zb1⟩); case round =>
  clear H'; obtain ⟨x3_1, rfl, HA, HK1, ⟨m1, rfl⟩⟩ := hrel
  cases gk with
  | zero => exact absurd HA.out (by simp [spec_l1Index.l0])
  | succ k1 =>
   have H := HA.out; clear HA; simp only [spec_l1Index.l0] at H; by_cases c2 : x3_1 < 32
   ·rw [if_pos c2] at H; have c2b0 : decide (x3_1 < 32) = true := decide_eq_true c2; clear c2; by_cases c3 : 0 ≤ x3_1
    ·rw [if_pos c3] at H; have c3b0 : decide (0 ≤ x3_1) = true := decide_eq_true c3; clear c3; by_cases c5 : (bt (⟨#[48, 49, 50, 51, 52, 53, 54, 55, 56, 57, 97, 98, 99, 100, 102, 103, 104, 105, 106, 107, 108, 109, 110, 112, 113, 114, 115, 118, 119, 120, 121, 122]⟩ : ByteArray) x3_1) = a0
     ·rw [if_pos c5] at H; have c5b0 : ((bt (⟨#[48, 49, 50, 51, 52, 53, 54, 55, 56, 57, 97, 98, 99, 100, 102, 103, 104, 105, 106, 107, 108, 109, 110, 112, 113, 114, 115, 118, 119, 120, 121, 122]⟩ : ByteArray) x3_1) == a0) = true := beq_iff_eq.mpr c5; have c5b1 : ((bt (⟨#[48, 49, 50, 51, 52, 53, 54, 55, 56, 57, 97, 98, 99, 100, 102, 103, 104, 105, 106, 107, 108, 109, 110, 112, 113, 114, 115, 118, 119, 120, 121, 122]⟩ : ByteArray) x3_1) != a0) = false := bne_eq_false_iff_eq.mpr c5; clear c5; obtain rfl := Option.some.inj H; have p4 : 0 ≤ (x3_1 : Int) := of_decide_eq_true zb2; have q4 : x3_1 < (32 : Int) := of_decide_eq_true zb2; have hx4 := bt_at (⟨#[48, 49, 50, 51, 52, 53, 54, 55, 56, 57, 97, 98, 99, 100, 102, 103, 104, 105, 106, 107, 108, 109, 110, 112, 113, 114, 115, 118, 119, 120, 121, 122]⟩ : ByteArray) x3_1; replace p4 := eq_true p4; replace q4 := eq_true q4; go_wp2; go_ret; exact ⟨zb0, zb1⟩
     ·rw [if_neg c5] at H; have c5b0 : ((bt (⟨#[48, 49, 50, 51, 52, 53, 54, 55, 56, 57, 97, 98, 99, 100, 102, 103, 104, 105, 106, 107, 108, 109, 110, 112, 113, 114, 115, 118, 119, 120, 121, 122]⟩ : ByteArray) x3_1) == a0) = false := beq_eq_false_iff_ne.mpr c5; have c5b1 : ((bt (⟨#[48, 49, 50, 51, 52, 53, 54, 55, 56, 57, 97, 98, 99, 100, 102, 103, 104, 105, 106, 107, 108, 109, 110, 112, 113, 114, 115, 118, 119, 120, 121, 122]⟩ : ByteArray) x3_1) != a0) = true := bne_iff_ne.mpr c5; have H' := Aside0.mk H; clear H; have p4 : 0 ≤ (x3_1 : Int) := of_decide_eq_true zb2; have q4 : x3_1 < (32 : Int) := of_decide_eq_true zb2; have hx4 := bt_at (⟨#[48, 49, 50, 51, 52, 53, 54, 55, 56, 57, 97, 98, 99, 100, 102, 103, 104, 105, 106, 107, 108, 109, 110, 112, 113, 114, 115, 118, 119, 120, 121, 122]⟩ : ByteArray) x3_1; replace p4 := eq_true p4; replace q4 := eq_true q4; go_wp2; go_roundg k1; (case measure => have := HK1.out; omega); case rel => exact ⟨(wrap64 (x3_1 + 1)), zb0, H', ⟨by have := HK1.out; omega⟩, zb1⟩
    ·rw [if_neg c3] at H; exact absurd H (by simp)
   ·rw [if_neg c2] at H; have c2b0 : decide (x3_1 < 32) = false := decide_eq_false c2; clear c2; obtain rfl := Option.some.inj H; go_wp2; go_ret; exact ⟨zb0, zb1⟩

/-! ### spec_ReadWord32: function 56 -/
def spec_ReadWord32.l0 : Nat → ByteArray → Int → Int → Option (Int × Bool)
 | 0, _, _, _ => none
 | k + 1, x0, x4, x5 => if x5 < 13 then (if 0 ≤ x5 then (if x5 < (x0.size : Int) then ((spec_l1Index.f k (bt x0 x5)).bind fun t105 => (if t105 < 0 then (some (0, false)) else (if x5 = 0 then (if t105 > 15 then (some (0, false)) else (spec_ReadWord32.l0 k x0 (IntKind.u64.wrap ((IntKind.u64.wrap (x4 * 32)) + (IntKind.u64.wrap (t105)))) (wrap64 (x5 + 1)))) else (spec_ReadWord32.l0 k x0 (IntKind.u64.wrap ((IntKind.u64.wrap (x4 * 32)) + (IntKind.u64.wrap (t105)))) (wrap64 (x5 + 1)))))) else (none)) else (none)) else (some (x4, true))
def spec_ReadWord32.f (k : Nat) (a0 : ByteArray) : Option (Int × Bool) := if (a0.size : Int) = 13 then (spec_ReadWord32.l0 k a0 0 0) else (some (0, false))
theorem spec_ReadWord32.mono_l : ∀ k, (∀ y0 y1 y2, LeO (spec_ReadWord32.l0 k y0 y1 y2) (spec_ReadWord32.l0 (k + 1) y0 y1 y2))
 | 0 => fun _ _ _ r h => by simp [spec_ReadWord32.l0] at h
 | k + 1 => by
  have ih0 := spec_ReadWord32.mono_l k
  ·intro y0 y1 y2; unfold spec_ReadWord32.l0
   repeat' first
   | (with_reducible exact ih0 _ _ _)
   | (with_reducible exact spec_l1Index.mono _ _)
   | (with_reducible exact LeO.refl _)
   | (with_reducible exact LeO.none _)
   | (with_reducible refine LeO.ite ?_ ?_)
   | (with_reducible refine LeO.bind ?_ (fun _ => ?_))
   | exact ih0 _ _ _
   | exact spec_l1Index.mono _ _
   | exact LeO.none _
   | refine LeO.ite ?_ ?_
   | refine LeO.bind ?_ (fun _ => ?_)
theorem spec_ReadWord32.mono : ∀ a0 k, LeO (spec_ReadWord32.f k a0) (spec_ReadWord32.f (k + 1) a0) := by
 intro a0 k; have ih0 := spec_ReadWord32.mono_l k; unfold spec_ReadWord32.f
 repeat' first
   | (with_reducible exact ih0 _ _ _)
   | (with_reducible exact spec_l1Index.mono _ _)
   | (with_reducible exact LeO.refl _)
   | (with_reducible exact LeO.none _)
   | (with_reducible refine LeO.ite ?_ ?_)
   | (with_reducible refine LeO.bind ?_ (fun _ => ?_))
   | exact ih0 _ _ _
   | exact spec_l1Index.mono _ _
   | exact LeO.none _
   | refine LeO.ite ?_ ?_
   | refine LeO.bind ?_ (fun _ => ?_)
set_option maxHeartbeats 8000000 in
set_option maxRecDepth 100000 in
theorem spec_ReadWord32.calls (k : Nat) (a0 : ByteArray) (r1 : Int) (r2 : Bool) (w : World) (h : spec_ReadWord32.f k a0 = some (r1, r2)) :
  Calls Try.prog 56 #[.string a0] w fun e w' => e = .returned (.tuple #[.int .u64 r1, .bool r2]) ∧ Drawn0 w w' := by
 have H : (if (a0.size : Int) = 13 then (spec_ReadWord32.l0 k a0 0 0) else (some (0, false))) = some (r1, r2) := h; clear h; by_cases c2 : (a0.size : Int) = 13
 ·rw [if_pos c2] at H; have c2b0 : ((a0.size : Int) == 13) = true := beq_iff_eq.mpr c2; have c2b1 : ((a0.size : Int) != 13) = false := bne_eq_false_iff_eq.mpr c2; clear c2; have H' := Aside0.mk H; clear H; go_enter Try.func56, Try.ntmps56; go_wp2; go_loopg [4, 5] k (fun kq v4 v5 w' => ∃ (x4_1 : Int) (x5_1 : Int), v4 = .int .u64 x4_1 ∧ v5 = .int .i64 x5_1 ∧ Aside0 (spec_ReadWord32.l0 kq a0 x4_1 x5_1 = some (r1, r2)) ∧ Aside0 (kq ≤ k) ∧ Drawn0 w w'); (case atStart => exact ⟨(0), (0), zb0, zb0, H', ⟨Nat.le_refl _⟩, zb1⟩); case round =>
   clear H'; clear c2b0 c2b1; obtain ⟨x4_1, x5_1, rfl, rfl, HA, HK1, ⟨m1, rfl⟩⟩ := hrel
   cases gk with
   | zero => exact absurd HA.out (by simp [spec_ReadWord32.l0])
   | succ k1 =>
    have H := HA.out; clear HA; simp only [spec_ReadWord32.l0] at H; by_cases c3 : x5_1 < 13
    ·rw [if_pos c3] at H; have c3b0 : decide (x5_1 < 13) = true := decide_eq_true c3; clear c3; by_cases c4 : 0 ≤ x5_1
     ·rw [if_pos c4] at H; have c4b0 : decide (0 ≤ x5_1) = true := decide_eq_true c4; clear c4; by_cases c5 : x5_1 < (a0.size : Int)
      ·rw [if_pos c5] at H; have c5b0 : decide (x5_1 < (a0.size : Int)) = true := decide_eq_true c5; clear c5; replace H := Option.bind_eq_some_iff.mp H; obtain ⟨t105, A70, H⟩ := H; have A7 := Aside0.mk A70; clear A70; by_cases c8 : t105 < 0
       ·rw [if_pos c8] at H; have c8b0 : decide (t105 < 0) = true := decide_eq_true c8; clear c8; simp only [Option.some.injEq, Prod.mk.injEq] at H; obtain ⟨rfl, rfl⟩ := H; have p6 : 0 ≤ (x5_1 : Int) := of_decide_eq_true zb2; have q6 : x5_1 < (a0.size : Int) := of_decide_eq_true zb2; have hx6 := bt_at a0 x5_1; replace p6 := eq_true p6; replace q6 := eq_true q6; go_wp2_with (first | ((with_reducible refine gate_callee (f := 67) rfl ?_); refine goesL_ (some 17) rfl rfl Try.func67 (by kernel_rfl) rfl #[.int .u8 (bt a0 x5_1)] rfl zb3 ?_; (with_reducible refine (spec_l1Index.calls k1 (bt a0 x5_1) t105 _ A7.out).mono ?_); rintro e w' ⟨rfl, ⟨nd, rfl⟩⟩; refine ⟨_, rfl, ?_⟩)); go_ret2; exact ⟨zb0, zb1⟩
       ·rw [if_neg c8] at H; have c8b0 : decide (t105 < 0) = false := decide_eq_false c8; clear c8; by_cases c9 : x5_1 = 0
        ·rw [if_pos c9] at H; have c9b0 : (x5_1 == 0) = true := beq_iff_eq.mpr c9; have c9b1 : (x5_1 != 0) = false := bne_eq_false_iff_eq.mpr c9; clear c9; by_cases c10 : t105 > 15
         ·rw [if_pos c10] at H; have c10b0 : decide (15 < t105) = true := decide_eq_true c10; clear c10; simp only [Option.some.injEq, Prod.mk.injEq] at H; obtain ⟨rfl, rfl⟩ := H; have p6 : 0 ≤ (x5_1 : Int) := of_decide_eq_true zb2; have q6 : x5_1 < (a0.size : Int) := of_decide_eq_true zb2; have hx6 := bt_at a0 x5_1; replace p6 := eq_true p6; replace q6 := eq_true q6; go_wp2_with (first | ((with_reducible refine gate_callee (f := 67) rfl ?_); refine goesL_ (some 17) rfl rfl Try.func67 (by kernel_rfl) rfl #[.int .u8 (bt a0 x5_1)] rfl zb3 ?_; (with_reducible refine (spec_l1Index.calls k1 (bt a0 x5_1) t105 _ A7.out).mono ?_); rintro e w' ⟨rfl, ⟨nd, rfl⟩⟩; refine ⟨_, rfl, ?_⟩)); go_ret2; exact ⟨zb0, zb1⟩
         ·rw [if_neg c10] at H; have c10b0 : decide (15 < t105) = false := decide_eq_false c10; clear c10; have H' := Aside0.mk H; clear H; have p6 : 0 ≤ (x5_1 : Int) := of_decide_eq_true zb2; have q6 : x5_1 < (a0.size : Int) := of_decide_eq_true zb2; have hx6 := bt_at a0 x5_1; replace p6 := eq_true p6; replace q6 := eq_true q6; go_wp2_with (first | ((with_reducible refine gate_callee (f := 67) rfl ?_); refine goesL_ (some 17) rfl rfl Try.func67 (by kernel_rfl) rfl #[.int .u8 (bt a0 x5_1)] rfl zb3 ?_; (with_reducible refine (spec_l1Index.calls k1 (bt a0 x5_1) t105 _ A7.out).mono ?_); rintro e w' ⟨rfl, ⟨nd, rfl⟩⟩; refine ⟨_, rfl, ?_⟩)); go_roundg k1; (case measure => have := HK1.out; omega); case rel => exact ⟨(IntKind.u64.wrap ((IntKind.u64.wrap (x4_1 * 32)) + (IntKind.u64.wrap (t105)))), (wrap64 (x5_1 + 1)), zb0, zb0, H', ⟨by have := HK1.out; omega⟩, zb1⟩
        ·rw [if_neg c9] at H; have c9b0 : (x5_1 == 0) = false := beq_eq_false_iff_ne.mpr c9; have c9b1 : (x5_1 != 0) = true := bne_iff_ne.mpr c9; have H' := Aside0.mk H; clear H; have p6 : 0 ≤ (x5_1 : Int) := of_decide_eq_true zb2; have q6 : x5_1 < (a0.size : Int) := of_decide_eq_true zb2; have hx6 := bt_at a0 x5_1; replace p6 := eq_true p6; replace q6 := eq_true q6; go_wp2_with (first | ((with_reducible refine gate_callee (f := 67) rfl ?_); refine goesL_ (some 17) rfl rfl Try.func67 (by kernel_rfl) rfl #[.int .u8 (bt a0 x5_1)] rfl zb3 ?_; (with_reducible refine (spec_l1Index.calls k1 (bt a0 x5_1) t105 _ A7.out).mono ?_); rintro e w' ⟨rfl, ⟨nd, rfl⟩⟩; refine ⟨_, rfl, ?_⟩)); go_roundg k1; (case measure => have := HK1.out; omega); case rel => exact ⟨(IntKind.u64.wrap ((IntKind.u64.wrap (x4_1 * 32)) + (IntKind.u64.wrap (t105)))), (wrap64 (x5_1 + 1)), zb0, zb0, H', ⟨by have := HK1.out; omega⟩, zb1⟩
      ·rw [if_neg c5] at H; exact absurd H (by simp)
     ·rw [if_neg c4] at H; exact absurd H (by simp)
    ·rw [if_neg c3] at H; have c3b0 : decide (x5_1 < 13) = false := decide_eq_false c3; clear c3; simp only [Option.some.injEq, Prod.mk.injEq] at H; obtain ⟨rfl, rfl⟩ := H; go_wp2; go_ret2; exact ⟨zb0, zb1⟩
 ·rw [if_neg c2] at H; have c2b0 : ((a0.size : Int) == 13) = false := beq_eq_false_iff_ne.mpr c2; have c2b1 : ((a0.size : Int) != 13) = true := bne_iff_ne.mpr c2; simp only [Option.some.injEq, Prod.mk.injEq] at H; obtain ⟨rfl, rfl⟩ := H; go_enter Try.func56, Try.ntmps56; go_wp2; go_ret2; exact ⟨zb0, zb1⟩

end Go.Proofs.Ytbgnjnlecpdfaaa.PFnRollBack
