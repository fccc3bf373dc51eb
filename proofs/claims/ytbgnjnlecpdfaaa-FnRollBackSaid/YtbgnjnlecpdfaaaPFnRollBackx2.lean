-- Laid by a program of this session: a turned copy of the kit's print, with contracts by hand beside.
import Derived.Test.YtbgnjnlecpdfaaaPFnRollBackx0
import Derived.Test.YtbgnjnlecpdfaaaPFnRollBackx1
namespace Go.Proofs.Ytbgnjnlecpdfaaa.PFnRollBack
open Go.RowKit Go.Proofs.YtbgnjnlecpdfaaaW.PrintWords Go.Proofs.YtbgnjnlecpdfaaaW.PrintLast Go.Proofs.YtbgnjnlecpdfaaaW.PrintMore
theorem zc0 {X : Prop} (h : X := by rfl) : X := h
theorem zc1 {X : Prop} (h : X := by repeat (first | exact Drawn0.refl _ | apply Drawn0.step)) : X := h
theorem zc2 {X : Prop} (h : X := by (simp only [List.map_toArray, List.map_cons, List.map_nil]); first | done | rfl | (simp only [List.length_drop, List.length_take]; rfl)) : X := h
attribute [local go_sem] max2_int min2_int max_two min_two max_three min_three max_four min_four   -- for this text's walks alone
set_option linter.unusedVariables false
set_option linter.unusedSimpArgs false

/-! ### spec_AddressOk: function 32 -/
def spec_AddressOk.j0 : Nat → ByteArray → Bool → Option (Bool)
 | 0, _, _ => none
 | k + 1, x0, x12 => if x12 = true then (some false) else (if 0 ≤ 13 then (if 13 ≤ (x0.size : Int) then ((spec_ReadWord32.f k (x0.extract 0 13)).bind fun bt106 => (if bt106.2 = true then (if 14 ≤ (x0.size : Int) then ((spec_NameOk.f k (x0.extract 14 x0.size)).bind fun t108 => (some t108)) else (none)) else (some false))) else (none)) else (none))
def spec_AddressOk.f (k : Nat) (a0 : ByteArray) : Option (Bool) := if (a0.size : Int) < 15 then (spec_AddressOk.j0 k a0 true) else (if 13 < (a0.size : Int) then (spec_AddressOk.j0 k a0 ((bt a0 13) != 45)) else (none))
theorem spec_AddressOk.mono_l : ∀ k, (∀ y0 y1, LeO (spec_AddressOk.j0 k y0 y1) (spec_AddressOk.j0 (k + 1) y0 y1))
 | 0 => fun _ _ r h => by simp [spec_AddressOk.j0] at h
 | k + 1 => by
  have ih0 := spec_AddressOk.mono_l k
  ·intro y0 y1; unfold spec_AddressOk.j0
   repeat' first
   | (with_reducible exact ih0 _ _)
   | (with_reducible exact spec_NameOk.mono _ _)
   | (with_reducible exact spec_ReadWord32.mono _ _)
   | (with_reducible exact LeO.refl _)
   | (with_reducible exact LeO.none _)
   | (with_reducible refine LeO.ite ?_ ?_)
   | (with_reducible refine LeO.bind ?_ (fun _ => ?_))
   | exact ih0 _ _
   | exact spec_NameOk.mono _ _
   | exact spec_ReadWord32.mono _ _
   | exact LeO.none _
   | refine LeO.ite ?_ ?_
   | refine LeO.bind ?_ (fun _ => ?_)
theorem spec_AddressOk.mono : ∀ a0 k, LeO (spec_AddressOk.f k a0) (spec_AddressOk.f (k + 1) a0) := by
 intro a0 k; have ih0 := spec_AddressOk.mono_l k; unfold spec_AddressOk.f
 repeat' first
   | (with_reducible exact ih0 _ _)
   | (with_reducible exact spec_NameOk.mono _ _)
   | (with_reducible exact spec_ReadWord32.mono _ _)
   | (with_reducible exact LeO.refl _)
   | (with_reducible exact LeO.none _)
   | (with_reducible refine LeO.ite ?_ ?_)
   | (with_reducible refine LeO.bind ?_ (fun _ => ?_))
   | exact ih0 _ _
   | exact spec_NameOk.mono _ _
   | exact spec_ReadWord32.mono _ _
   | exact LeO.none _
   | refine LeO.ite ?_ ?_
   | refine LeO.bind ?_ (fun _ => ?_)
set_option maxHeartbeats 8000000 in
set_option maxRecDepth 100000 in
theorem spec_AddressOk.calls (k : Nat) (a0 : ByteArray) (r : Bool) (w : World) (h : spec_AddressOk.f k a0 = some r) :
  Calls Try.prog 32 #[.string a0] w fun e w' => e = .returned (.bool r) ∧ Drawn0 w w' := by
 have H : (if (a0.size : Int) < 15 then (spec_AddressOk.j0 k a0 true) else (if 13 < (a0.size : Int) then (spec_AddressOk.j0 k a0 ((bt a0 13) != 45)) else (none))) = some r := h; clear h; have HC2 := Aside0.mk H; clear H; go_enter Try.func32, Try.ntmps32; go_upto_region 1 with (fail); go_cut [12] (fun v12 wc => ∃ (kq : Nat) (x12_1 : Bool), v12 = .bool x12_1 ∧ Aside0 (spec_AddressOk.j0 kq a0 x12_1 = some r) ∧ Aside0 (kq ≤ k) ∧ Drawn0 w wc); case first =>
  have H := HC2.out; clear HC2; by_cases c3 : (a0.size : Int) < 15
  ·rw [if_pos c3] at H; have c3b0 : decide ((a0.size : Int) < 15) = true := decide_eq_true c3; have c3b1 : decide (a0.size < 15) = true := decide_eq_true (by omega); clear c3; (skip); have H' := Aside0.mk H; clear H; go_wp2; go_meet; case rel => exact ⟨_, (true), zc0, H', ⟨by omega⟩, zc1⟩
  ·rw [if_neg c3] at H; have c3b0 : decide ((a0.size : Int) < 15) = false := decide_eq_false c3; have c3b1 : decide (a0.size < 15) = false := decide_eq_false (by omega); clear c3; (skip); by_cases c4 : 13 < (a0.size : Int)
   ·rw [if_pos c4] at H; have c4b0 : decide (13 < (a0.size : Int)) = true := decide_eq_true c4; have c4b1 : decide (13 < a0.size) = true := decide_eq_true (by omega); clear c4; have H' := Aside0.mk H; clear H; have p5 : 0 ≤ (13 : Int) := (by omega); have q5 : 13 < a0.size := (by have : (13 : Int) < (a0.size : Int) := of_decide_eq_true (by (with_reducible assumption)); omega); have hx5 : ∀ h : 13 < a0.size, ((a0[13]'h).toNat : Int) = bt a0 13 := bt_at a0 13; clear p5; have qi5 : (13 < (a0.size : Int)) = True := eq_true (of_decide_eq_true (by (with_reducible assumption))); replace q5 := eq_true q5; go_wp2; go_meet; case rel => exact ⟨_, (((bt a0 13) != 45)), zc0, H', ⟨by omega⟩, zc1⟩
   ·rw [if_neg c4] at H; exact absurd H (by simp)
 case rest =>
  clear HC2; obtain ⟨kq, x12_1, rfl, HA, HJ1, ⟨mc1, rfl⟩⟩ := hcut
  cases kq with
  | zero => exact absurd HA.out (by simp [spec_AddressOk.j0])
  | succ kj1 =>
   have H := HA.out; clear HA; simp only [spec_AddressOk.j0] at H; by_cases c6 : x12_1 = true
   ·subst c6; rw [if_pos rfl] at H; obtain rfl := Option.some.inj H; go_wp2; go_ret; exact ⟨zc0, zc1⟩
   ·replace c6 := Bool.eq_false_iff.mpr c6; subst c6; rw [if_neg (show ¬ (false = true) by decide)] at H; by_cases c7 : 0 ≤ 13
    ·rw [if_pos c7] at H; have c7b0 := eq_true c7; have c7b1 : decide (0 ≤ 13) = true := decide_eq_true c7; clear c7; by_cases c8 : 13 ≤ (a0.size : Int)
     ·rw [if_pos c8] at H; have c8b0 := eq_true c8; have c8b1 : decide (13 ≤ (a0.size : Int)) = true := decide_eq_true c8; clear c8; replace H := Option.bind_eq_some_iff.mp H; obtain ⟨⟨t106, t107⟩, A90, H⟩ := H; dsimp only at H; have A9 := Aside0.mk A90; clear A90; by_cases c10 : t107 = true
      ·subst c10; rw [if_pos rfl] at H; by_cases c11 : 14 ≤ (a0.size : Int)
       ·rw [if_pos c11] at H; have c11b0 := eq_true c11; have c11b1 : decide (14 ≤ (a0.size : Int)) = true := decide_eq_true c11; clear c11; replace H := Option.bind_eq_some_iff.mp H; obtain ⟨t108, A120, H⟩ := H; have A12 := Aside0.mk A120; clear A120; obtain rfl := Option.some.inj H; go_wp2_with (first | ((with_reducible refine gate_callee (f := 56) rfl ?_); refine goesL_ (some 16) rfl rfl Try.func56 (by kernel_rfl) rfl #[.string (a0.extract 0 13)] rfl zc2 ?_; (with_reducible refine (spec_ReadWord32.calls kj1 (a0.extract 0 13) t106 true _ A9.out).mono ?_); rintro e w' ⟨rfl, ⟨nd, rfl⟩⟩; refine ⟨_, rfl, ?_⟩) | (go_at_call 30; (with_reducible refine (spec_NameOk.calls kj1 (a0.extract 14 a0.size) t108 _ A12.out).mono ?_); rintro e w' ⟨rfl, ⟨nd, rfl⟩⟩)); go_ret; exact ⟨zc0, zc1⟩
       ·rw [if_neg c11] at H; exact absurd H (by simp)
      ·replace c10 := Bool.eq_false_iff.mpr c10; subst c10; rw [if_neg (show ¬ (false = true) by decide)] at H; obtain rfl := Option.some.inj H; go_wp2_with (first | ((with_reducible refine gate_callee (f := 56) rfl ?_); refine goesL_ (some 16) rfl rfl Try.func56 (by kernel_rfl) rfl #[.string (a0.extract 0 13)] rfl zc2 ?_; (with_reducible refine (spec_ReadWord32.calls kj1 (a0.extract 0 13) t106 false _ A9.out).mono ?_); rintro e w' ⟨rfl, ⟨nd, rfl⟩⟩; refine ⟨_, rfl, ?_⟩)); go_ret; exact ⟨zc0, zc1⟩
     ·rw [if_neg c8] at H; exact absurd H (by simp)
    ·rw [if_neg c7] at H; exact absurd H (by simp)

end Go.Proofs.Ytbgnjnlecpdfaaa.PFnRollBack
