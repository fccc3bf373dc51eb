-- Laid by a program of this session: a turned copy of the kit's print, with contracts by hand beside.
import Derived.Test.YtnahkojlamficaaPFnExactPlanUnitsx0
import Derived.Test.YtnahkojlamficaaPFnExactPlanUnitsx3
namespace Go.Proofs.Ytnahkojlamficaa.PFnExactPlanUnits
open Go.RowKit Go.Proofs.YtnahkojlamficaaW.PrintWords Go.Proofs.YtnahkojlamficaaW.PrintLast Go.Proofs.YtnahkojlamficaaW.PrintMore
theorem ze0 {X : Prop} (h : X := by first | rfl | (simp; done) | (simp [*]; done)) : X := h
theorem ze1 {X : Prop} (h : X := by repeat (first | exact Drawn0.refl _ | apply Drawn0.step)) : X := h
theorem ze2 {X : Prop} (h : X := by first | (with_reducible assumption) | assumption) : X := h
theorem ze3 {X : Prop} (h : X := by (try simp only [List.map_toArray, List.map_cons, List.map_nil]); first | done | rfl | (simp only [List.length_drop, List.length_take]; rfl)) : X := h
attribute [local go_sem] max2_int min2_int max_two min_two max_three min_three max_four min_four   -- for this text's walks alone
set_option linter.unusedVariables false
set_option linter.unusedSimpArgs false

/-! ### spec_l17Ascending: function 48 -/
def spec_l17Ascending.l0 : Nat → List ByteArray → Int → Option (Bool)
 | 0, _, _ => none
 | k + 1, x0, x3 => if x3 < (x0.length : Int) then (if 0 ≤ (wrap64 (x3 - 1)) then (if (wrap64 (x3 - 1)) < (x0.length : Int) then (if 0 ≤ x3 then (if ((Op.bytesLess ((rdOf ByteArray.empty x0 (wrap64 (x3 - 1))).toList) ((rdOf ByteArray.empty x0 x3).toList)) = true) then (spec_l17Ascending.l0 k x0 (wrap64 (x3 + 1))) else (some false)) else (none)) else (none)) else (none)) else (some (decide ((x0.length : Int) ≤ 20)))
def spec_l17Ascending.f (k : Nat) (l0 : List ByteArray) : Option (Bool) := spec_l17Ascending.l0 k l0 1
theorem spec_l17Ascending.mono_l : ∀ k, (∀ y0 y1, LeO (spec_l17Ascending.l0 k y0 y1) (spec_l17Ascending.l0 (k + 1) y0 y1))
 | 0 => fun _ _ r h => by simp [spec_l17Ascending.l0] at h
 | k + 1 => by
  have ih0 := spec_l17Ascending.mono_l k
  ·intro y0 y1; unfold spec_l17Ascending.l0
   repeat' first
   | (with_reducible exact ih0 _ _)
   | (with_reducible exact LeO.refl _)
   | (with_reducible exact LeO.none _)
   | (with_reducible refine LeO.ite ?_ ?_)
   | (with_reducible refine LeO.bind ?_ (fun _ => ?_))
   | exact ih0 _ _
   | exact LeO.none _
   | refine LeO.ite ?_ ?_
   | refine LeO.bind ?_ (fun _ => ?_)
theorem spec_l17Ascending.mono : ∀ a0 k, LeO (spec_l17Ascending.f k a0) (spec_l17Ascending.f (k + 1) a0) := by
 intro a0 k; have ih0 := spec_l17Ascending.mono_l k; unfold spec_l17Ascending.f
 repeat' first
   | (with_reducible exact ih0 _ _)
   | (with_reducible exact LeO.refl _)
   | (with_reducible exact LeO.none _)
   | (with_reducible refine LeO.ite ?_ ?_)
   | (with_reducible refine LeO.bind ?_ (fun _ => ?_))
   | exact ih0 _ _
   | exact LeO.none _
   | refine LeO.ite ?_ ?_
   | refine LeO.bind ?_ (fun _ => ?_)
set_option maxHeartbeats 8000000 in
set_option maxRecDepth 100000 in
theorem spec_l17Ascending.calls (k : Nat) (A0 : Option Addr) (c0 : Nat) (l0 : List ByteArray) (r : Bool) (w : World) (hr0 : Kd.C Kd.string w A0 l0.length l0) (hc0 : l0.length ≤ c0) (h : spec_l17Ascending.f k l0 = some r) :
  Calls Try.prog 48 #[.slice A0 l0.length c0] w fun e w' => e = .returned (.bool r) ∧ Drawn0 w w' := by
 have HR0 := Aside0.mk hr0; have HC0 := Aside0.mk hc0; clear hr0 hc0; have H : (spec_l17Ascending.l0 k l0 1) = some r := h; clear h; have H' := Aside0.mk H; clear H; go_enter Try.func48, Try.ntmps48; go_wp2; (repeat (go_quiet (fail); try go_wp2)); go_loopg [3] k (fun kq v3 w' => ∃ (x3_1 : Int), v3 = .int .i64 x3_1 ∧ Aside0 (spec_l17Ascending.l0 kq l0 x3_1 = some r) ∧ Aside0 (kq ≤ k) ∧ Drawn0 w w'); (case atStart => exact ⟨(1), ze0, H', ⟨Nat.le_refl _⟩, ze1⟩); case round =>
  clear H'; obtain ⟨x3_1, rfl, HA, HK1, ⟨m1, rfl⟩⟩ := hrel
  cases gk with
  | zero => exact absurd HA.out (by simp [spec_l17Ascending.l0])
  | succ k1 =>
   have H := HA.out; clear HA; simp only [spec_l17Ascending.l0] at H; by_cases c2 : x3_1 < (l0.length : Int)
   ·rw [if_pos c2] at H; have c2b0 : decide (x3_1 < (l0.length : Int)) = true := decide_eq_true c2; clear c2; obtain ⟨ji3, hji3⟩ : ∃ j_ : Int, (wrap64 (x3_1 - 1)) = j_ := ⟨_, rfl⟩; replace H : (if 0 ≤ (ji3) then (if (ji3) < (l0.length : Int) then (if 0 ≤ x3_1 then (if ((Op.bytesLess ((rdOf ByteArray.empty l0 (ji3)).toList) ((rdOf ByteArray.empty l0 x3_1).toList)) = true) then (spec_l17Ascending.l0 k1 l0 (wrap64 (x3_1 + 1))) else (some false)) else (none)) else (none)) else (none)) = some r := by first | (rw [hji3] at H; exact H) | (simp only [hji3] at H ⊢; exact H)
    have hji3w : (IntKind.i64.wrap (x3_1 - 1)) = ji3 := (i64_w _).trans hji3; by_cases c4 : 0 ≤ (ji3)
    ·rw [if_pos c4] at H; have c4b0 : decide (0 ≤ (ji3)) = true := decide_eq_true c4; clear c4; by_cases c5 : (ji3) < (l0.length : Int)
     ·rw [if_pos c5] at H; have c5b0 : decide ((ji3) < (l0.length : Int)) = true := decide_eq_true c5; clear c5; by_cases c6 : 0 ≤ x3_1
      ·rw [if_pos c6] at H; have c6b0 : decide (0 ≤ x3_1) = true := decide_eq_true c6; clear c6; by_cases c7 : ((Op.bytesLess ((rdOf ByteArray.empty l0 (ji3)).toList) ((rdOf ByteArray.empty l0 x3_1).toList)) = true)
       ·rw [if_pos c7] at H; have c7b0 : (Op.bytesLess ((rdOf ByteArray.empty l0 (ji3)).toList) ((rdOf ByteArray.empty l0 x3_1).toList)) = true := c7; clear c7; have H' := Aside0.mk H; clear H; have p159 : 0 ≤ ((ji3) : Int) := of_decide_eq_true ze2; have q159 : (ji3) < (l0.length : Int) := of_decide_eq_true ze2; obtain ⟨ad159, e159, hx159_0⟩ := Kd.at_string HR0.out (ji3) p159 q159; cases e159; replace p159 := eq_true p159; replace q159 := eq_true q159; have p160 : 0 ≤ (x3_1 : Int) := of_decide_eq_true ze2; have q160 : x3_1 < (l0.length : Int) := of_decide_eq_true ze2; obtain ⟨ad160, e160, hx160_0⟩ := Kd.at_string HR0.out x3_1 p160 q160; obtain rfl : ad159 = ad160 := (by injection e160); replace p160 := eq_true p160; replace q160 := eq_true q160; go_wp2; (repeat (go_quiet (fail); try go_wp2)); go_roundg k1; (case measure => have := HK1.out; omega); case rel => exact ⟨(wrap64 (x3_1 + 1)), ze0, H', ⟨by have := HK1.out; omega⟩, ze1⟩
       ·rw [if_neg c7] at H; have c7b0 : (Op.bytesLess ((rdOf ByteArray.empty l0 (ji3)).toList) ((rdOf ByteArray.empty l0 x3_1).toList)) = false := by simpa using c7
        clear c7; obtain rfl := Option.some.inj H; have p159 : 0 ≤ ((ji3) : Int) := of_decide_eq_true ze2; have q159 : (ji3) < (l0.length : Int) := of_decide_eq_true ze2; obtain ⟨ad159, e159, hx159_0⟩ := Kd.at_string HR0.out (ji3) p159 q159; cases e159; replace p159 := eq_true p159; replace q159 := eq_true q159; have p160 : 0 ≤ (x3_1 : Int) := of_decide_eq_true ze2; have q160 : x3_1 < (l0.length : Int) := of_decide_eq_true ze2; obtain ⟨ad160, e160, hx160_0⟩ := Kd.at_string HR0.out x3_1 p160 q160; obtain rfl : ad159 = ad160 := (by injection e160); replace p160 := eq_true p160; replace q160 := eq_true q160; go_wp2; (repeat (go_quiet (fail); try go_wp2)); go_ret; exact ⟨by first | rfl | (simp; done) | (simp only [← hji3] <;> (first | rfl | simp)) | (simp [*]; done), ze1⟩
      ·rw [if_neg c6] at H; exact absurd H (by simp)
     ·rw [if_neg c5] at H; exact absurd H (by simp)
    ·rw [if_neg c4] at H; exact absurd H (by simp)
   ·rw [if_neg c2] at H; have c2b0 : decide (x3_1 < (l0.length : Int)) = false := decide_eq_false c2; clear c2; obtain rfl := Option.some.inj H; go_wp2; (repeat (go_quiet (fail); try go_wp2)); go_ret; exact ⟨ze0, ze1⟩

/-! ### spec_l8Names: function 49 -/
def spec_l8Names.l0 : Nat → List ByteArray → Int → Option (Bool)
 | 0, _, _ => none
 | k + 1, x0, x3 => if x3 < (x0.length : Int) then (if 0 ≤ x3 then ((spec_NameOk.f k (rdOf ByteArray.empty x0 x3)).bind fun t162 => (if t162 = true then (spec_l8Names.l0 k x0 (wrap64 (x3 + 1))) else (some false))) else (none)) else (some (decide ((x0.length : Int) ≤ 2000)))
def spec_l8Names.f (k : Nat) (l0 : List ByteArray) : Option (Bool) := spec_l8Names.l0 k l0 0
theorem spec_l8Names.mono_l : ∀ k, (∀ y0 y1, LeO (spec_l8Names.l0 k y0 y1) (spec_l8Names.l0 (k + 1) y0 y1))
 | 0 => fun _ _ r h => by simp [spec_l8Names.l0] at h
 | k + 1 => by
  have ih0 := spec_l8Names.mono_l k
  ·intro y0 y1; unfold spec_l8Names.l0
   repeat' first
   | (with_reducible exact ih0 _ _)
   | (with_reducible exact spec_NameOk.mono _ _)
   | (with_reducible exact LeO.refl _)
   | (with_reducible exact LeO.none _)
   | (with_reducible refine LeO.ite ?_ ?_)
   | (with_reducible refine LeO.bind ?_ (fun _ => ?_))
   | exact ih0 _ _
   | exact spec_NameOk.mono _ _
   | exact LeO.none _
   | refine LeO.ite ?_ ?_
   | refine LeO.bind ?_ (fun _ => ?_)
theorem spec_l8Names.mono : ∀ a0 k, LeO (spec_l8Names.f k a0) (spec_l8Names.f (k + 1) a0) := by
 intro a0 k; have ih0 := spec_l8Names.mono_l k; unfold spec_l8Names.f
 repeat' first
   | (with_reducible exact ih0 _ _)
   | (with_reducible exact spec_NameOk.mono _ _)
   | (with_reducible exact LeO.refl _)
   | (with_reducible exact LeO.none _)
   | (with_reducible refine LeO.ite ?_ ?_)
   | (with_reducible refine LeO.bind ?_ (fun _ => ?_))
   | exact ih0 _ _
   | exact spec_NameOk.mono _ _
   | exact LeO.none _
   | refine LeO.ite ?_ ?_
   | refine LeO.bind ?_ (fun _ => ?_)
set_option maxHeartbeats 8000000 in
set_option maxRecDepth 100000 in
theorem spec_l8Names.calls (k : Nat) (A0 : Option Addr) (c0 : Nat) (l0 : List ByteArray) (r : Bool) (w : World) (hr0 : Kd.C Kd.string w A0 l0.length l0) (hc0 : l0.length ≤ c0) (h : spec_l8Names.f k l0 = some r) :
  Calls Try.prog 49 #[.slice A0 l0.length c0] w fun e w' => e = .returned (.bool r) ∧ Drawn0 w w' := by
 have HR0 := Aside0.mk hr0; have HC0 := Aside0.mk hc0; clear hr0 hc0; have H : (spec_l8Names.l0 k l0 0) = some r := h; clear h; have H' := Aside0.mk H; clear H; go_enter Try.func49, Try.ntmps49; go_wp2; go_loopg [3] k (fun kq v3 w' => ∃ (x3_1 : Int), v3 = .int .i64 x3_1 ∧ Aside0 (spec_l8Names.l0 kq l0 x3_1 = some r) ∧ Aside0 (kq ≤ k) ∧ Drawn0 w w'); (case atStart => exact ⟨(0), ze0, H', ⟨Nat.le_refl _⟩, ze1⟩); case round =>
  clear H'; obtain ⟨x3_1, rfl, HA, HK1, ⟨m1, rfl⟩⟩ := hrel
  cases gk with
  | zero => exact absurd HA.out (by simp [spec_l8Names.l0])
  | succ k1 =>
   have H := HA.out; clear HA; simp only [spec_l8Names.l0] at H; by_cases c2 : x3_1 < (l0.length : Int)
   ·rw [if_pos c2] at H; have c2b0 : decide (x3_1 < (l0.length : Int)) = true := decide_eq_true c2; clear c2; by_cases c3 : 0 ≤ x3_1
    ·rw [if_pos c3] at H; have c3b0 : decide (0 ≤ x3_1) = true := decide_eq_true c3; clear c3; replace H := Option.bind_eq_some_iff.mp H; obtain ⟨t162, A40, H⟩ := H; have A4 := Aside0.mk A40; clear A40; by_cases c5 : t162 = true
     ·subst c5; rw [if_pos rfl] at H; have H' := Aside0.mk H; clear H; have p161 : 0 ≤ (x3_1 : Int) := of_decide_eq_true ze2; have q161 : x3_1 < (l0.length : Int) := of_decide_eq_true ze2; obtain ⟨ad161, e161, hx161_0⟩ := Kd.at_string HR0.out x3_1 p161 q161; cases e161; replace p161 := eq_true p161; replace q161 := eq_true q161; go_wp2_with (first | ((with_reducible refine gate_callee (f := 47) rfl ?_); refine goesL_ (some 14) rfl rfl Try.func47 (by kernel_rfl) rfl #[.string (rdOf ByteArray.empty l0 x3_1)] rfl ze3 ?_; (with_reducible refine (spec_NameOk.calls k1 (rdOf ByteArray.empty l0 x3_1) true _ A4.out).mono ?_); rintro e w' ⟨rfl, ⟨nd, rfl⟩⟩; refine ⟨_, rfl, ?_⟩)); go_roundg k1; (case measure => have := HK1.out; omega); case rel => exact ⟨(wrap64 (x3_1 + 1)), ze0, H', ⟨by have := HK1.out; omega⟩, ze1⟩
     ·replace c5 := Bool.eq_false_iff.mpr c5; subst c5; rw [if_neg (show ¬ (false = true) by decide)] at H; obtain rfl := Option.some.inj H; have p161 : 0 ≤ (x3_1 : Int) := of_decide_eq_true ze2; have q161 : x3_1 < (l0.length : Int) := of_decide_eq_true ze2; obtain ⟨ad161, e161, hx161_0⟩ := Kd.at_string HR0.out x3_1 p161 q161; cases e161; replace p161 := eq_true p161; replace q161 := eq_true q161; go_wp2_with (first | ((with_reducible refine gate_callee (f := 47) rfl ?_); refine goesL_ (some 14) rfl rfl Try.func47 (by kernel_rfl) rfl #[.string (rdOf ByteArray.empty l0 x3_1)] rfl ze3 ?_; (with_reducible refine (spec_NameOk.calls k1 (rdOf ByteArray.empty l0 x3_1) false _ A4.out).mono ?_); rintro e w' ⟨rfl, ⟨nd, rfl⟩⟩; refine ⟨_, rfl, ?_⟩)); go_ret; exact ⟨ze0, ze1⟩
    ·rw [if_neg c3] at H; exact absurd H (by simp)
   ·rw [if_neg c2] at H; have c2b0 : decide (x3_1 < (l0.length : Int)) = false := decide_eq_false c2; clear c2; obtain rfl := Option.some.inj H; go_wp2; go_ret; exact ⟨ze0, ze1⟩

end Go.Proofs.Ytnahkojlamficaa.PFnExactPlanUnits
