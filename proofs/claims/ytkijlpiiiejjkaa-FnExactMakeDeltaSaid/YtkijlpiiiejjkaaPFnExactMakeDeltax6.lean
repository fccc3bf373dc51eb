-- Laid by a program of this session: a turned copy of the kit's print, with contracts by hand beside.
import Derived.Test.YtkijlpiiiejjkaaPFnExactMakeDeltax0
import Derived.Test.YtkijlpiiiejjkaaPFnExactMakeDeltax2
import Derived.Test.YtkijlpiiiejjkaaPFnExactMakeDeltax3
import Derived.Test.YtkijlpiiiejjkaaPFnExactMakeDeltax4
import Derived.Test.YtkijlpiiiejjkaaPFnExactMakeDeltax5
namespace Go.Proofs.Ytkijlpiiiejjkaa.PFnExactMakeDelta
open Go.RowKit Go.Proofs.YtkijlpiiiejjkaaW.PrintWords Go.Proofs.YtkijlpiiiejjkaaW.PrintLast Go.Proofs.YtkijlpiiiejjkaaW.PrintMore
attribute [local go_sem] max2_int min2_int max_two min_two max_three min_three max_four min_four   -- for this text's walks alone
set_option linter.unusedVariables false
set_option linter.unusedSimpArgs false

/-! ### laws_heldByteS: function 28 -/
def laws_heldByteS.l0 : Nat → List Int → Int → Int → Option (Int)
  | 0, _, _, _ => none
  | k + 1, x0, x1, x5 => if x5 < (x0.length : Int) then (if 0 ≤ x5 then (if (rd x0 x5) = ((x1) % 256) then (laws_heldByteS.l0 k x0 (wrap64 (x1 + 1)) (wrap64 (x5 + 1))) else (some (-1))) else (none)) else (some x1)
def laws_heldByteS.f (k : Nat) (l0 : List Int) (a1 : Int) : Option (Int) := laws_heldByteS.l0 k l0 a1 0
theorem laws_heldByteS.mono_l : ∀ k, (∀ y0 y1 y2, LeO (laws_heldByteS.l0 k y0 y1 y2) (laws_heldByteS.l0 (k + 1) y0 y1 y2))
  | 0 => fun _ _ _ r h => by simp [laws_heldByteS.l0] at h
  | k + 1 => by
    have ih0 := laws_heldByteS.mono_l k
    · intro y0 y1 y2
      unfold laws_heldByteS.l0
      repeat' first
      | (with_reducible exact ih0 _ _ _)
      | (with_reducible exact LeO.refl _)
      | (with_reducible exact LeO.none _)
      | (with_reducible refine LeO.ite ?_ ?_)
      | (with_reducible refine LeO.bind ?_ (fun _ => ?_))
      | exact ih0 _ _ _
      | exact LeO.none _
      | refine LeO.ite ?_ ?_
      | refine LeO.bind ?_ (fun _ => ?_)
theorem laws_heldByteS.mono : ∀ a0 a1 k, LeO (laws_heldByteS.f k a0 a1) (laws_heldByteS.f (k + 1) a0 a1) := by
  intro a0 a1 k
  have ih0 := laws_heldByteS.mono_l k
  unfold laws_heldByteS.f
  repeat' first
      | (with_reducible exact ih0 _ _ _)
      | (with_reducible exact LeO.refl _)
      | (with_reducible exact LeO.none _)
      | (with_reducible refine LeO.ite ?_ ?_)
      | (with_reducible refine LeO.bind ?_ (fun _ => ?_))
      | exact ih0 _ _ _
      | exact LeO.none _
      | refine LeO.ite ?_ ?_
      | refine LeO.bind ?_ (fun _ => ?_)
set_option maxHeartbeats 8000000 in
set_option maxRecDepth 100000 in
theorem laws_heldByteS.calls (k : Nat) (A0 : Option Addr) (c0 : Nat) (l0 : List Int) (a1 : Int) (r : Int) (w : World) (hr0 : Kd.C (Kd.int .u8) w A0 l0.length l0) (hc0 : l0.length ≤ c0) (h : laws_heldByteS.f k l0 a1 = some r) :
    Calls Try.prog 28 #[.slice A0 l0.length c0, .int .i64 a1] w fun e w' => e = .returned (.int .i64 r) ∧ Drawn0 w w' := by
  have HR0 := Aside0.mk hr0
  have HC0 := Aside0.mk hc0
  clear hr0 hc0
  have H : (laws_heldByteS.l0 k l0 a1 0) = some r := h
  clear h
  have H' := Aside0.mk H
  clear H
  go_enter Try.func28, Try.ntmps28
  go_wp2
  go_loopg [1, 5] k (fun kq v1 v5 w' => ∃ (x1_1 : Int) (x5_1 : Int), v1 = .int .i64 x1_1 ∧ v5 = .int .i64 x5_1 ∧ Aside0 (laws_heldByteS.l0 kq l0 x1_1 x5_1 = some r) ∧ Aside0 (kq ≤ k) ∧ Drawn0 w w')
  case atStart => exact ⟨(a1), (0), (by first | rfl | (simp; done) | (simp [*]; done)), (by first | rfl | (simp; done) | (simp [*]; done)), H', ⟨Nat.le_refl _⟩, by repeat (first | exact Drawn0.refl _ | apply Drawn0.step)⟩
  case round =>
    clear H'
    try clear c2
    try clear p2
    obtain ⟨x1_1, x5_1, rfl, rfl, HA, HK1, ⟨m1, rfl⟩⟩ := hrel
    cases gk with
    | zero => exact absurd HA.out (by simp [laws_heldByteS.l0])
    | succ k1 =>
      have H := HA.out
      clear HA
      simp only [laws_heldByteS.l0] at H
      by_cases c3 : x5_1 < (l0.length : Int)
      · rw [if_pos c3] at H
        have c3b0 : decide (x5_1 < (l0.length : Int)) = true := decide_eq_true c3
        clear c3
        by_cases c4 : 0 ≤ x5_1
        · rw [if_pos c4] at H
          have c4b0 : decide (0 ≤ x5_1) = true := decide_eq_true c4
          clear c4
          by_cases c5 : (rd l0 x5_1) = ((x1_1) % 256)
          · rw [if_pos c5] at H
            have c5b0 : ((rd l0 x5_1) == ((x1_1) % 256)) = true := beq_iff_eq.mpr c5
            have c5b1 : ((rd l0 x5_1) != ((x1_1) % 256)) = false := bne_eq_false_iff_eq.mpr c5
            clear c5
            have H' := Aside0.mk H
            clear H
            have p182 : 0 ≤ (x5_1 : Int) := of_decide_eq_true (by first | (with_reducible assumption) | assumption)
            have q182 : x5_1 < (l0.length : Int) := of_decide_eq_true (by first | (with_reducible assumption) | assumption)
            obtain ⟨ad182, e182, hx182_0⟩ := Kd.at_int HR0.out x5_1 p182 q182
            cases e182
            replace p182 := eq_true p182
            replace q182 := eq_true q182
            go_wp2
            go_roundg k1
            case measure => have := HK1.out; omega
            case rel => exact ⟨(wrap64 (x1_1 + 1)), (wrap64 (x5_1 + 1)), (by first | rfl | (simp; done) | (simp [*]; done)), (by first | rfl | (simp; done) | (simp [*]; done)), H', ⟨by have := HK1.out; omega⟩, by repeat (first | exact Drawn0.refl _ | apply Drawn0.step)⟩
          · rw [if_neg c5] at H
            have c5b0 : ((rd l0 x5_1) == ((x1_1) % 256)) = false := beq_eq_false_iff_ne.mpr c5
            have c5b1 : ((rd l0 x5_1) != ((x1_1) % 256)) = true := bne_iff_ne.mpr c5
            obtain rfl := Option.some.inj H
            have p182 : 0 ≤ (x5_1 : Int) := of_decide_eq_true (by first | (with_reducible assumption) | assumption)
            have q182 : x5_1 < (l0.length : Int) := of_decide_eq_true (by first | (with_reducible assumption) | assumption)
            obtain ⟨ad182, e182, hx182_0⟩ := Kd.at_int HR0.out x5_1 p182 q182
            cases e182
            replace p182 := eq_true p182
            replace q182 := eq_true q182
            go_wp2
            go_ret
            exact ⟨by first | rfl | (simp; done) | (simp [*]; done), by repeat (first | exact Drawn0.refl _ | apply Drawn0.step)⟩
        · rw [if_neg c4] at H
          exact absurd H (by simp)
      · rw [if_neg c3] at H
        have c3b0 : decide (x5_1 < (l0.length : Int)) = false := decide_eq_false c3
        clear c3
        obtain rfl := Option.some.inj H
        go_wp2
        go_ret
        exact ⟨by first | rfl | (simp; done) | (simp [*]; done), by repeat (first | exact Drawn0.refl _ | apply Drawn0.step)⟩

/-! ### laws_heldStepS: function 21 -/
def laws_heldStepS.l0 : Nat → List (S62) → Int → Int → Option (Int)
  | 0, _, _, _ => none
  | k + 1, x0, x1, x5 => if x5 < (x0.length : Int) then (if 0 ≤ x5 then (if ((rd_T62 x0 x5).f0) = x1 then (if ((rd_T62 x0 x5).f1) = (wrap64 (x1 + 1)) then (if ((rd_T62 x0 x5).f2) = (wrap64 ((wrap64 (x1 + 1)) + 1)) then ((laws_heldByteS.f k ((rd_T62 x0 x5).f3) (wrap64 ((wrap64 ((wrap64 (x1 + 1)) + 1)) + 1))).bind fun t187 => (if t187 < 0 then (some (-1)) else (laws_heldStepS.l0 k x0 t187 (wrap64 (x5 + 1))))) else (some (-1))) else (some (-1))) else (some (-1))) else (none)) else (some x1)
def laws_heldStepS.f (k : Nat) (l0 : List (S62)) (a1 : Int) : Option (Int) := laws_heldStepS.l0 k l0 a1 0
theorem laws_heldStepS.mono_l : ∀ k, (∀ y0 y1 y2, LeO (laws_heldStepS.l0 k y0 y1 y2) (laws_heldStepS.l0 (k + 1) y0 y1 y2))
  | 0 => fun _ _ _ r h => by simp [laws_heldStepS.l0] at h
  | k + 1 => by
    have ih0 := laws_heldStepS.mono_l k
    · intro y0 y1 y2
      unfold laws_heldStepS.l0
      repeat' first
      | (with_reducible exact ih0 _ _ _)
      | (with_reducible exact laws_heldByteS.mono _ _ _)
      | (with_reducible exact LeO.refl _)
      | (with_reducible exact LeO.none _)
      | (with_reducible refine LeO.ite ?_ ?_)
      | (with_reducible refine LeO.bind ?_ (fun _ => ?_))
      | exact ih0 _ _ _
      | exact laws_heldByteS.mono _ _ _
      | exact LeO.none _
      | refine LeO.ite ?_ ?_
      | refine LeO.bind ?_ (fun _ => ?_)
theorem laws_heldStepS.mono : ∀ a0 a1 k, LeO (laws_heldStepS.f k a0 a1) (laws_heldStepS.f (k + 1) a0 a1) := by
  intro a0 a1 k
  have ih0 := laws_heldStepS.mono_l k
  unfold laws_heldStepS.f
  repeat' first
      | (with_reducible exact ih0 _ _ _)
      | (with_reducible exact laws_heldByteS.mono _ _ _)
      | (with_reducible exact LeO.refl _)
      | (with_reducible exact LeO.none _)
      | (with_reducible refine LeO.ite ?_ ?_)
      | (with_reducible refine LeO.bind ?_ (fun _ => ?_))
      | exact ih0 _ _ _
      | exact laws_heldByteS.mono _ _ _
      | exact LeO.none _
      | refine LeO.ite ?_ ?_
      | refine LeO.bind ?_ (fun _ => ?_)
set_option maxHeartbeats 8000000 in
set_option maxRecDepth 100000 in
theorem laws_heldStepS.calls (k : Nat) (A0 : Option Addr) (c0 : Nat) (l0 : List (S62)) (a1 : Int) (r : Int) (w : World) (hr0 : Kd.C k62 w A0 l0.length l0) (hc0 : l0.length ≤ c0) (h : laws_heldStepS.f k l0 a1 = some r) :
    Calls Try.prog 21 #[.slice A0 l0.length c0, .int .i64 a1] w fun e w' => e = .returned (.int .i64 r) ∧ Drawn0 w w' := by
  have HR0 := Aside0.mk hr0
  have HC0 := Aside0.mk hc0
  clear hr0 hc0
  have H : (laws_heldStepS.l0 k l0 a1 0) = some r := h
  clear h
  have H' := Aside0.mk H
  clear H
  go_enter Try.func21, Try.ntmps21
  go_wp2
  go_loopg [1, 5] k (fun kq v1 v5 w' => ∃ (x1_1 : Int) (x5_1 : Int), v1 = .int .i64 x1_1 ∧ v5 = .int .i64 x5_1 ∧ Aside0 (laws_heldStepS.l0 kq l0 x1_1 x5_1 = some r) ∧ Aside0 (kq ≤ k) ∧ Drawn0 w w')
  case atStart => exact ⟨(a1), (0), (by first | rfl | (simp; done) | (simp [*]; done)), (by first | rfl | (simp; done) | (simp [*]; done)), H', ⟨Nat.le_refl _⟩, by repeat (first | exact Drawn0.refl _ | apply Drawn0.step)⟩
  case round =>
    clear H'
    try clear c2
    try clear p2
    obtain ⟨x1_1, x5_1, rfl, rfl, HA, HK1, ⟨m1, rfl⟩⟩ := hrel
    cases gk with
    | zero => exact absurd HA.out (by simp [laws_heldStepS.l0])
    | succ k1 =>
      have H := HA.out
      clear HA
      simp only [laws_heldStepS.l0] at H
      by_cases c3 : x5_1 < (l0.length : Int)
      · rw [if_pos c3] at H
        have c3b0 : decide (x5_1 < (l0.length : Int)) = true := decide_eq_true c3
        clear c3
        by_cases c4 : 0 ≤ x5_1
        · rw [if_pos c4] at H
          have c4b0 : decide (0 ≤ x5_1) = true := decide_eq_true c4
          clear c4
          by_cases c5 : ((rd_T62 l0 x5_1).f0) = x1_1
          · rw [if_pos c5] at H
            have c5b0 : (((rd_T62 l0 x5_1).f0) == x1_1) = true := beq_iff_eq.mpr c5
            have c5b1 : (((rd_T62 l0 x5_1).f0) != x1_1) = false := bne_eq_false_iff_eq.mpr c5
            clear c5
            by_cases c6 : ((rd_T62 l0 x5_1).f1) = (wrap64 (x1_1 + 1))
            · rw [if_pos c6] at H
              have c6b0 : (((rd_T62 l0 x5_1).f1) == (wrap64 (x1_1 + 1))) = true := beq_iff_eq.mpr c6
              have c6b1 : (((rd_T62 l0 x5_1).f1) != (wrap64 (x1_1 + 1))) = false := bne_eq_false_iff_eq.mpr c6
              clear c6
              by_cases c7 : ((rd_T62 l0 x5_1).f2) = (wrap64 ((wrap64 (x1_1 + 1)) + 1))
              · rw [if_pos c7] at H
                have c7b0 : (((rd_T62 l0 x5_1).f2) == (wrap64 ((wrap64 (x1_1 + 1)) + 1))) = true := beq_iff_eq.mpr c7
                have c7b1 : (((rd_T62 l0 x5_1).f2) != (wrap64 ((wrap64 (x1_1 + 1)) + 1))) = false := bne_eq_false_iff_eq.mpr c7
                clear c7
                replace H := Option.bind_eq_some_iff.mp H
                obtain ⟨t187, A80, H⟩ := H
                replace H : (if t187 < 0 then (some (-1)) else (laws_heldStepS.l0 k1 l0 t187 (wrap64 (x5_1 + 1)))) = some r := H
                have A8 := Aside0.mk A80
                clear A80
                by_cases c9 : t187 < 0
                · rw [if_pos c9] at H
                  have c9b0 : decide (t187 < 0) = true := decide_eq_true c9
                  clear c9
                  obtain rfl := Option.some.inj H
                  have p183 : 0 ≤ (x5_1 : Int) := of_decide_eq_true (by first | (with_reducible assumption) | assumption)
                  have q183 : x5_1 < (l0.length : Int) := of_decide_eq_true (by first | (with_reducible assumption) | assumption)
                  obtain ⟨ad183, A183_3, c183_3, e183, hx183_0, hx183_1, hx183_2, hx183_3, hl183_3, hi183_3⟩ := at_T62 HR0.out x5_1 p183 q183
                  cases e183
                  have HR183_3 := Aside0.mk hi183_3
                  have HC183_3 := Aside0.mk hl183_3
                  clear hi183_3 hl183_3
                  replace p183 := eq_true p183
                  replace q183 := eq_true q183
                  have p184 : 0 ≤ (x5_1 : Int) := of_decide_eq_true (by first | (with_reducible assumption) | assumption)
                  have q184 : x5_1 < (l0.length : Int) := of_decide_eq_true (by first | (with_reducible assumption) | assumption)
                  obtain ⟨ad184, A184_3, c184_3, e184, hx184_0, hx184_1, hx184_2, hx184_3, hl184_3, hi184_3⟩ := at_T62 HR0.out x5_1 p184 q184
                  obtain rfl : ad183 = ad184 := (by injection e184)
                  have HR184_3 := Aside0.mk hi184_3
                  have HC184_3 := Aside0.mk hl184_3
                  clear hi184_3 hl184_3
                  replace p184 := eq_true p184
                  replace q184 := eq_true q184
                  have ea_ := Option.some.inj (hx183_3.symm.trans hx184_3)
                  injection ea_ with ea_ en_ ec_
                  subst ea_
                  subst ec_
                  clear en_
                  have p185 : 0 ≤ (x5_1 : Int) := of_decide_eq_true (by first | (with_reducible assumption) | assumption)
                  have q185 : x5_1 < (l0.length : Int) := of_decide_eq_true (by first | (with_reducible assumption) | assumption)
                  obtain ⟨ad185, A185_3, c185_3, e185, hx185_0, hx185_1, hx185_2, hx185_3, hl185_3, hi185_3⟩ := at_T62 HR0.out x5_1 p185 q185
                  obtain rfl : ad183 = ad185 := (by injection e185)
                  have HR185_3 := Aside0.mk hi185_3
                  have HC185_3 := Aside0.mk hl185_3
                  clear hi185_3 hl185_3
                  replace p185 := eq_true p185
                  replace q185 := eq_true q185
                  have ea_ := Option.some.inj (hx183_3.symm.trans hx185_3)
                  injection ea_ with ea_ en_ ec_
                  subst ea_
                  subst ec_
                  clear en_
                  have p186 : 0 ≤ (x5_1 : Int) := of_decide_eq_true (by first | (with_reducible assumption) | assumption)
                  have q186 : x5_1 < (l0.length : Int) := of_decide_eq_true (by first | (with_reducible assumption) | assumption)
                  obtain ⟨ad186, A186_3, c186_3, e186, hx186_0, hx186_1, hx186_2, hx186_3, hl186_3, hi186_3⟩ := at_T62 HR0.out x5_1 p186 q186
                  obtain rfl : ad183 = ad186 := (by injection e186)
                  have HR186_3 := Aside0.mk hi186_3
                  have HC186_3 := Aside0.mk hl186_3
                  clear hi186_3 hl186_3
                  replace p186 := eq_true p186
                  replace q186 := eq_true q186
                  have ea_ := Option.some.inj (hx183_3.symm.trans hx186_3)
                  injection ea_ with ea_ en_ ec_
                  subst ea_
                  subst ec_
                  clear en_
                  go_wp2_with (first | ((with_reducible refine gate_callee (f := 28) rfl ?_); refine goesL_ (some 45) rfl rfl Try.func28 (by kernel_rfl) rfl #[.slice A183_3 ((rd_T62 l0 x5_1).f3).length c183_3, .int .i64 (wrap64 ((wrap64 ((wrap64 (x1_1 + 1)) + 1)) + 1))] rfl (by (try simp only [List.map_toArray, List.map_cons, List.map_nil]); first | done | rfl | (simp only [List.length_drop, List.length_take]; rfl)) ?_; (with_reducible refine (laws_heldByteS.calls k1 _ _ ((rd_T62 l0 x5_1).f3) (wrap64 ((wrap64 ((wrap64 (x1_1 + 1)) + 1)) + 1)) t187 _ ?side1 ?side2 A8.out).mono ?_); (case side1 => repeat (first | exact HR186_3.out | (with_reducible refine Kd.C_alloc ?_ _) | (with_reducible refine Kd.C_drewN ?_ _) | (with_reducible refine Kd.C_drew ?_))); (case side2 => exact HC186_3.out); rintro e w' ⟨rfl, ⟨nd, rfl⟩⟩; refine ⟨_, rfl, ?_⟩))
                  go_ret
                  exact ⟨by first | rfl | (simp; done) | (simp [*]; done), by repeat (first | exact Drawn0.refl _ | apply Drawn0.step)⟩
                · rw [if_neg c9] at H
                  have c9b0 : decide (t187 < 0) = false := decide_eq_false c9
                  clear c9
                  have H' := Aside0.mk H
                  clear H
                  have p183 : 0 ≤ (x5_1 : Int) := of_decide_eq_true (by first | (with_reducible assumption) | assumption)
                  have q183 : x5_1 < (l0.length : Int) := of_decide_eq_true (by first | (with_reducible assumption) | assumption)
                  obtain ⟨ad183, A183_3, c183_3, e183, hx183_0, hx183_1, hx183_2, hx183_3, hl183_3, hi183_3⟩ := at_T62 HR0.out x5_1 p183 q183
                  cases e183
                  have HR183_3 := Aside0.mk hi183_3
                  have HC183_3 := Aside0.mk hl183_3
                  clear hi183_3 hl183_3
                  replace p183 := eq_true p183
                  replace q183 := eq_true q183
                  have p184 : 0 ≤ (x5_1 : Int) := of_decide_eq_true (by first | (with_reducible assumption) | assumption)
                  have q184 : x5_1 < (l0.length : Int) := of_decide_eq_true (by first | (with_reducible assumption) | assumption)
                  obtain ⟨ad184, A184_3, c184_3, e184, hx184_0, hx184_1, hx184_2, hx184_3, hl184_3, hi184_3⟩ := at_T62 HR0.out x5_1 p184 q184
                  obtain rfl : ad183 = ad184 := (by injection e184)
                  have HR184_3 := Aside0.mk hi184_3
                  have HC184_3 := Aside0.mk hl184_3
                  clear hi184_3 hl184_3
                  replace p184 := eq_true p184
                  replace q184 := eq_true q184
                  have ea_ := Option.some.inj (hx183_3.symm.trans hx184_3)
                  injection ea_ with ea_ en_ ec_
                  subst ea_
                  subst ec_
                  clear en_
                  have p185 : 0 ≤ (x5_1 : Int) := of_decide_eq_true (by first | (with_reducible assumption) | assumption)
                  have q185 : x5_1 < (l0.length : Int) := of_decide_eq_true (by first | (with_reducible assumption) | assumption)
                  obtain ⟨ad185, A185_3, c185_3, e185, hx185_0, hx185_1, hx185_2, hx185_3, hl185_3, hi185_3⟩ := at_T62 HR0.out x5_1 p185 q185
                  obtain rfl : ad183 = ad185 := (by injection e185)
                  have HR185_3 := Aside0.mk hi185_3
                  have HC185_3 := Aside0.mk hl185_3
                  clear hi185_3 hl185_3
                  replace p185 := eq_true p185
                  replace q185 := eq_true q185
                  have ea_ := Option.some.inj (hx183_3.symm.trans hx185_3)
                  injection ea_ with ea_ en_ ec_
                  subst ea_
                  subst ec_
                  clear en_
                  have p186 : 0 ≤ (x5_1 : Int) := of_decide_eq_true (by first | (with_reducible assumption) | assumption)
                  have q186 : x5_1 < (l0.length : Int) := of_decide_eq_true (by first | (with_reducible assumption) | assumption)
                  obtain ⟨ad186, A186_3, c186_3, e186, hx186_0, hx186_1, hx186_2, hx186_3, hl186_3, hi186_3⟩ := at_T62 HR0.out x5_1 p186 q186
                  obtain rfl : ad183 = ad186 := (by injection e186)
                  have HR186_3 := Aside0.mk hi186_3
                  have HC186_3 := Aside0.mk hl186_3
                  clear hi186_3 hl186_3
                  replace p186 := eq_true p186
                  replace q186 := eq_true q186
                  have ea_ := Option.some.inj (hx183_3.symm.trans hx186_3)
                  injection ea_ with ea_ en_ ec_
                  subst ea_
                  subst ec_
                  clear en_
                  go_wp2_with (first | ((with_reducible refine gate_callee (f := 28) rfl ?_); refine goesL_ (some 45) rfl rfl Try.func28 (by kernel_rfl) rfl #[.slice A183_3 ((rd_T62 l0 x5_1).f3).length c183_3, .int .i64 (wrap64 ((wrap64 ((wrap64 (x1_1 + 1)) + 1)) + 1))] rfl (by (try simp only [List.map_toArray, List.map_cons, List.map_nil]); first | done | rfl | (simp only [List.length_drop, List.length_take]; rfl)) ?_; (with_reducible refine (laws_heldByteS.calls k1 _ _ ((rd_T62 l0 x5_1).f3) (wrap64 ((wrap64 ((wrap64 (x1_1 + 1)) + 1)) + 1)) t187 _ ?side1 ?side2 A8.out).mono ?_); (case side1 => repeat (first | exact HR186_3.out | (with_reducible refine Kd.C_alloc ?_ _) | (with_reducible refine Kd.C_drewN ?_ _) | (with_reducible refine Kd.C_drew ?_))); (case side2 => exact HC186_3.out); rintro e w' ⟨rfl, ⟨nd, rfl⟩⟩; refine ⟨_, rfl, ?_⟩))
                  go_roundg k1
                  case measure => have := HK1.out; omega
                  case rel => exact ⟨(t187), (wrap64 (x5_1 + 1)), (by first | rfl | (simp; done) | (simp [*]; done)), (by first | rfl | (simp; done) | (simp [*]; done)), H', ⟨by have := HK1.out; omega⟩, by repeat (first | exact Drawn0.refl _ | apply Drawn0.step)⟩
              · rw [if_neg c7] at H
                have c7b0 : (((rd_T62 l0 x5_1).f2) == (wrap64 ((wrap64 (x1_1 + 1)) + 1))) = false := beq_eq_false_iff_ne.mpr c7
                have c7b1 : (((rd_T62 l0 x5_1).f2) != (wrap64 ((wrap64 (x1_1 + 1)) + 1))) = true := bne_iff_ne.mpr c7
                obtain rfl := Option.some.inj H
                have p183 : 0 ≤ (x5_1 : Int) := of_decide_eq_true (by first | (with_reducible assumption) | assumption)
                have q183 : x5_1 < (l0.length : Int) := of_decide_eq_true (by first | (with_reducible assumption) | assumption)
                obtain ⟨ad183, A183_3, c183_3, e183, hx183_0, hx183_1, hx183_2, hx183_3, hl183_3, hi183_3⟩ := at_T62 HR0.out x5_1 p183 q183
                cases e183
                have HR183_3 := Aside0.mk hi183_3
                have HC183_3 := Aside0.mk hl183_3
                clear hi183_3 hl183_3
                replace p183 := eq_true p183
                replace q183 := eq_true q183
                have p184 : 0 ≤ (x5_1 : Int) := of_decide_eq_true (by first | (with_reducible assumption) | assumption)
                have q184 : x5_1 < (l0.length : Int) := of_decide_eq_true (by first | (with_reducible assumption) | assumption)
                obtain ⟨ad184, A184_3, c184_3, e184, hx184_0, hx184_1, hx184_2, hx184_3, hl184_3, hi184_3⟩ := at_T62 HR0.out x5_1 p184 q184
                obtain rfl : ad183 = ad184 := (by injection e184)
                have HR184_3 := Aside0.mk hi184_3
                have HC184_3 := Aside0.mk hl184_3
                clear hi184_3 hl184_3
                replace p184 := eq_true p184
                replace q184 := eq_true q184
                have ea_ := Option.some.inj (hx183_3.symm.trans hx184_3)
                injection ea_ with ea_ en_ ec_
                subst ea_
                subst ec_
                clear en_
                have p185 : 0 ≤ (x5_1 : Int) := of_decide_eq_true (by first | (with_reducible assumption) | assumption)
                have q185 : x5_1 < (l0.length : Int) := of_decide_eq_true (by first | (with_reducible assumption) | assumption)
                obtain ⟨ad185, A185_3, c185_3, e185, hx185_0, hx185_1, hx185_2, hx185_3, hl185_3, hi185_3⟩ := at_T62 HR0.out x5_1 p185 q185
                obtain rfl : ad183 = ad185 := (by injection e185)
                have HR185_3 := Aside0.mk hi185_3
                have HC185_3 := Aside0.mk hl185_3
                clear hi185_3 hl185_3
                replace p185 := eq_true p185
                replace q185 := eq_true q185
                have ea_ := Option.some.inj (hx183_3.symm.trans hx185_3)
                injection ea_ with ea_ en_ ec_
                subst ea_
                subst ec_
                clear en_
                go_wp2
                go_ret
                exact ⟨by first | rfl | (simp; done) | (simp [*]; done), by repeat (first | exact Drawn0.refl _ | apply Drawn0.step)⟩
            · rw [if_neg c6] at H
              have c6b0 : (((rd_T62 l0 x5_1).f1) == (wrap64 (x1_1 + 1))) = false := beq_eq_false_iff_ne.mpr c6
              have c6b1 : (((rd_T62 l0 x5_1).f1) != (wrap64 (x1_1 + 1))) = true := bne_iff_ne.mpr c6
              obtain rfl := Option.some.inj H
              have p183 : 0 ≤ (x5_1 : Int) := of_decide_eq_true (by first | (with_reducible assumption) | assumption)
              have q183 : x5_1 < (l0.length : Int) := of_decide_eq_true (by first | (with_reducible assumption) | assumption)
              obtain ⟨ad183, A183_3, c183_3, e183, hx183_0, hx183_1, hx183_2, hx183_3, hl183_3, hi183_3⟩ := at_T62 HR0.out x5_1 p183 q183
              cases e183
              have HR183_3 := Aside0.mk hi183_3
              have HC183_3 := Aside0.mk hl183_3
              clear hi183_3 hl183_3
              replace p183 := eq_true p183
              replace q183 := eq_true q183
              have p184 : 0 ≤ (x5_1 : Int) := of_decide_eq_true (by first | (with_reducible assumption) | assumption)
              have q184 : x5_1 < (l0.length : Int) := of_decide_eq_true (by first | (with_reducible assumption) | assumption)
              obtain ⟨ad184, A184_3, c184_3, e184, hx184_0, hx184_1, hx184_2, hx184_3, hl184_3, hi184_3⟩ := at_T62 HR0.out x5_1 p184 q184
              obtain rfl : ad183 = ad184 := (by injection e184)
              have HR184_3 := Aside0.mk hi184_3
              have HC184_3 := Aside0.mk hl184_3
              clear hi184_3 hl184_3
              replace p184 := eq_true p184
              replace q184 := eq_true q184
              have ea_ := Option.some.inj (hx183_3.symm.trans hx184_3)
              injection ea_ with ea_ en_ ec_
              subst ea_
              subst ec_
              clear en_
              go_wp2
              go_ret
              exact ⟨by first | rfl | (simp; done) | (simp [*]; done), by repeat (first | exact Drawn0.refl _ | apply Drawn0.step)⟩
          · rw [if_neg c5] at H
            have c5b0 : (((rd_T62 l0 x5_1).f0) == x1_1) = false := beq_eq_false_iff_ne.mpr c5
            have c5b1 : (((rd_T62 l0 x5_1).f0) != x1_1) = true := bne_iff_ne.mpr c5
            obtain rfl := Option.some.inj H
            have p183 : 0 ≤ (x5_1 : Int) := of_decide_eq_true (by first | (with_reducible assumption) | assumption)
            have q183 : x5_1 < (l0.length : Int) := of_decide_eq_true (by first | (with_reducible assumption) | assumption)
            obtain ⟨ad183, A183_3, c183_3, e183, hx183_0, hx183_1, hx183_2, hx183_3, hl183_3, hi183_3⟩ := at_T62 HR0.out x5_1 p183 q183
            cases e183
            have HR183_3 := Aside0.mk hi183_3
            have HC183_3 := Aside0.mk hl183_3
            clear hi183_3 hl183_3
            replace p183 := eq_true p183
            replace q183 := eq_true q183
            go_wp2
            go_ret
            exact ⟨by first | rfl | (simp; done) | (simp [*]; done), by repeat (first | exact Drawn0.refl _ | apply Drawn0.step)⟩
        · rw [if_neg c4] at H
          exact absurd H (by simp)
      · rw [if_neg c3] at H
        have c3b0 : decide (x5_1 < (l0.length : Int)) = false := decide_eq_false c3
        clear c3
        obtain rfl := Option.some.inj H
        go_wp2
        go_ret
        exact ⟨by first | rfl | (simp; done) | (simp [*]; done), by repeat (first | exact Drawn0.refl _ | apply Drawn0.step)⟩

/-! ### laws_FnExactMakeDelta: function 3 -/
def laws_FnExactMakeDelta.f (k : Nat) (l0 : List Int) (l1 : List Int) : Option Bool := if (l0.length : Int) > 1048576 then some true else (if (l1.length : Int) > 1048576 then some true else ((laws_toByteS.f k l0).bind fun a0 => ((laws_toByteS.f k l1).bind fun a1 => ((spec_MakeDelta.f k a0 a1).bind fun w0 => ((laws_toByteS.f k l0).bind fun y0 => ((laws_toByteS.f k l1).bind fun y1 => ((impl_MakeDelta.f k y0 y1).bind fun g0 => ((laws_eqStepS.f k g0 w0).bind fun t1 => (if t1 = true then ((laws_toByteS.f k l0).bind fun b0 => ((laws_eqByteS.f k y0 b0).bind fun t2 => (if t2 = true then ((laws_toByteS.f k l1).bind fun b1 => ((laws_eqByteS.f k y1 b1).bind fun t3 => (if t3 = true then ((laws_markByteS.f k y0 1).bind fun ⟨k1, z0⟩ => ((laws_markByteS.f k y1 k1).bind fun ⟨k2, z1⟩ => (if k2 < 0 then none else ((laws_eqStepS.f k g0 w0).bind fun s1 => (if s1 = true then ((laws_markStepS.f k g0 1).bind fun ⟨m1, e0⟩ => ((laws_heldStepS.f k e0 1).bind fun q1 => (if q1 < 0 then none else (if m1 = q1 then ((laws_toByteS.f k l0).bind fun d0 => ((laws_toByteS.f k l1).bind fun d1 => ((impl_MakeDelta.f k d0 d1).bind fun h0 => ((laws_eqStepS.f k h0 w0).bind fun s2 => (if s2 = true then ((laws_heldStepS.f k e0 1).bind fun q2 => (if m1 = q2 then (some true) else none)) else none))))) else none)))) else none))))) else none))) else none))) else none)))))))))
set_option maxHeartbeats 8000000 in
set_option maxRecDepth 100000 in
theorem laws_FnExactMakeDelta.calls (k : Nat) (Al0 : Option Addr) (cl0 : Nat) (l0 : List Int) (Al1 : Option Addr) (cl1 : Nat) (l1 : List Int) (r : Bool) (w : World) (hrl0 : Kd.C (Kd.int .u8) w Al0 l0.length l0) (hcl0 : l0.length ≤ cl0) (hrl1 : Kd.C (Kd.int .u8) w Al1 l1.length l1) (hcl1 : l1.length ≤ cl1) (h : laws_FnExactMakeDelta.f k l0 l1 = some r) :
    Calls Try.prog 3 #[.slice Al0 l0.length cl0, .slice Al1 l1.length cl1] w fun e w' => e = .returned (.bool r) ∧ Below w.heap.size w w' := by
  have HR_l0 := Aside0.mk hrl0
  have HC_l0 := Aside0.mk hcl0
  clear hrl0 hcl0
  have HR_l1 := Aside0.mk hrl1
  have HC_l1 := Aside0.mk hcl1
  clear hrl1 hcl1
  have HB := Aside0.mk (Below.refl w.heap.size w)
  unfold laws_FnExactMakeDelta.f at h
  by_cases C0 : (l0.length : Int) > 1048576
  · rw [if_pos C0] at h
    have C0a : decide (1048576 < (l0.length : Int)) = true := decide_eq_true C0
    have C0b : decide (1048576 < l0.length) = true := decide_eq_true (by omega)
    clear C0
    obtain rfl := Option.some.inj h
    clear h
    go_enter Try.func3, Try.ntmps3
    go_wp2
    go_ret
    exact ⟨rfl, by repeat (first | (with_reducible first | exact HB.out | apply below_alloc | apply pw_below_drewN | apply below_drew1) | exact HB.out)⟩
  rw [if_neg C0] at h
  have C0a : decide (1048576 < (l0.length : Int)) = false := decide_eq_false C0
  have C0b : decide (1048576 < l0.length) = false := decide_eq_false (by omega)
  clear C0
  by_cases C1 : (l1.length : Int) > 1048576
  · rw [if_pos C1] at h
    have C1a : decide (1048576 < (l1.length : Int)) = true := decide_eq_true C1
    have C1b : decide (1048576 < l1.length) = true := decide_eq_true (by omega)
    clear C1
    obtain rfl := Option.some.inj h
    clear h
    go_enter Try.func3, Try.ntmps3
    go_wp2
    go_ret
    exact ⟨rfl, by repeat (first | (with_reducible first | exact HB.out | apply below_alloc | apply pw_below_drewN | apply below_drew1) | exact HB.out)⟩
  rw [if_neg C1] at h
  have C1a : decide (1048576 < (l1.length : Int)) = false := decide_eq_false C1
  have C1b : decide (1048576 < l1.length) = false := decide_eq_false (by omega)
  clear C1
  replace h := Option.bind_eq_some_iff.mp h
  obtain ⟨a0, E0, h⟩ := h
  have E2 := Aside0.mk E0
  clear E0
  try dsimp only at h
  replace h := Option.bind_eq_some_iff.mp h
  obtain ⟨a1, E0, h⟩ := h
  have E3 := Aside0.mk E0
  clear E0
  try dsimp only at h
  replace h := Option.bind_eq_some_iff.mp h
  obtain ⟨w0, E0, h⟩ := h
  have E4 := Aside0.mk E0
  clear E0
  try dsimp only at h
  replace h := Option.bind_eq_some_iff.mp h
  obtain ⟨y0, E0, h⟩ := h
  have E5 := Aside0.mk E0
  clear E0
  try dsimp only at h
  replace h := Option.bind_eq_some_iff.mp h
  obtain ⟨y1, E0, h⟩ := h
  have E6 := Aside0.mk E0
  clear E0
  try dsimp only at h
  replace h := Option.bind_eq_some_iff.mp h
  obtain ⟨g0, E0, h⟩ := h
  have E7 := Aside0.mk E0
  clear E0
  try dsimp only at h
  replace h := Option.bind_eq_some_iff.mp h
  obtain ⟨t1, E0, h⟩ := h
  have E8 := Aside0.mk E0
  clear E0
  try dsimp only at h
  by_cases C9 : ¬ (t1 = true)
  · rw [if_neg C9] at h; exact absurd h (by simp)
  replace C9 := Classical.not_not.mp C9
  rw [if_pos C9] at h
  subst C9
  replace h := Option.bind_eq_some_iff.mp h
  obtain ⟨b0, E0, h⟩ := h
  have E10 := Aside0.mk E0
  clear E0
  try dsimp only at h
  replace h := Option.bind_eq_some_iff.mp h
  obtain ⟨t2, E0, h⟩ := h
  have E11 := Aside0.mk E0
  clear E0
  try dsimp only at h
  by_cases C12 : ¬ (t2 = true)
  · rw [if_neg C12] at h; exact absurd h (by simp)
  replace C12 := Classical.not_not.mp C12
  rw [if_pos C12] at h
  subst C12
  replace h := Option.bind_eq_some_iff.mp h
  obtain ⟨b1, E0, h⟩ := h
  have E13 := Aside0.mk E0
  clear E0
  try dsimp only at h
  replace h := Option.bind_eq_some_iff.mp h
  obtain ⟨t3, E0, h⟩ := h
  have E14 := Aside0.mk E0
  clear E0
  try dsimp only at h
  by_cases C15 : ¬ (t3 = true)
  · rw [if_neg C15] at h; exact absurd h (by simp)
  replace C15 := Classical.not_not.mp C15
  rw [if_pos C15] at h
  subst C15
  replace h := Option.bind_eq_some_iff.mp h
  obtain ⟨⟨k1, z0⟩, E0, h⟩ := h
  have E16 := Aside0.mk E0
  clear E0
  try dsimp only at h
  replace h := Option.bind_eq_some_iff.mp h
  obtain ⟨⟨k2, z1⟩, E0, h⟩ := h
  have E17 := Aside0.mk E0
  clear E0
  try dsimp only at h
  by_cases C18 : k2 < 0
  · rw [if_pos C18] at h; exact absurd h (by simp)
  rw [if_neg C18] at h
  have C18a : decide (k2 < 0) = false := decide_eq_false C18
  clear C18
  replace h := Option.bind_eq_some_iff.mp h
  obtain ⟨s1, E0, h⟩ := h
  have E19 := Aside0.mk E0
  clear E0
  try dsimp only at h
  by_cases C20 : ¬ (s1 = true)
  · rw [if_neg C20] at h; exact absurd h (by simp)
  replace C20 := Classical.not_not.mp C20
  rw [if_pos C20] at h
  subst C20
  replace h := Option.bind_eq_some_iff.mp h
  obtain ⟨⟨m1, e0⟩, E0, h⟩ := h
  have E21 := Aside0.mk E0
  clear E0
  try dsimp only at h
  replace h := Option.bind_eq_some_iff.mp h
  obtain ⟨q1, E0, h⟩ := h
  have E22 := Aside0.mk E0
  clear E0
  try dsimp only at h
  by_cases C23 : q1 < 0
  · rw [if_pos C23] at h; exact absurd h (by simp)
  rw [if_neg C23] at h
  have C23a : decide (q1 < 0) = false := decide_eq_false C23
  clear C23
  by_cases C24 : ¬ (m1 = q1)
  · rw [if_neg C24] at h; exact absurd h (by simp)
  replace C24 := Classical.not_not.mp C24
  rw [if_pos C24] at h
  subst C24
  have C24a : (m1 != m1) = false := by simp
  have C24b : (m1 == m1) = true := by simp
  replace h := Option.bind_eq_some_iff.mp h
  obtain ⟨d0, E0, h⟩ := h
  have E25 := Aside0.mk E0
  clear E0
  try dsimp only at h
  replace h := Option.bind_eq_some_iff.mp h
  obtain ⟨d1, E0, h⟩ := h
  have E26 := Aside0.mk E0
  clear E0
  try dsimp only at h
  replace h := Option.bind_eq_some_iff.mp h
  obtain ⟨h0, E0, h⟩ := h
  have E27 := Aside0.mk E0
  clear E0
  try dsimp only at h
  replace h := Option.bind_eq_some_iff.mp h
  obtain ⟨s2, E0, h⟩ := h
  have E28 := Aside0.mk E0
  clear E0
  try dsimp only at h
  by_cases C29 : ¬ (s2 = true)
  · rw [if_neg C29] at h; exact absurd h (by simp)
  replace C29 := Classical.not_not.mp C29
  rw [if_pos C29] at h
  subst C29
  replace h := Option.bind_eq_some_iff.mp h
  obtain ⟨q2, E0, h⟩ := h
  have E30 := Aside0.mk E0
  clear E0
  try dsimp only at h
  by_cases C31 : ¬ (m1 = q2)
  · rw [if_neg C31] at h; exact absurd h (by simp)
  replace C31 := Classical.not_not.mp C31
  rw [if_pos C31] at h
  subst C31
  have C31a : (m1 != m1) = false := by simp
  have C31b : (m1 == m1) = true := by simp
  obtain rfl := Option.some.inj h
  clear h
  go_enter Try.func3, Try.ntmps3
  go_wp2_with (first | (go_at_call 15; (with_reducible refine (laws_toByteS.calls (hr0 := (Kd.C_below HR_l0.out (by repeat (first | (with_reducible first | exact HB.out | apply below_alloc | apply pw_below_drewN | apply below_drew1) | exact HB.out)))) (hc0 := HC_l0.out) (h := E2.out)).mono ?_); rintro e w1 ⟨v0_, rfl, ho0, hb⟩; have H_a0 := Aside0.mk (show Kd.R _ _ w1 w.heap.size (fun k_ => w.heap.size ≤ k_ ∧ k_ < w1.heap.size) v0_ a0 from Kd.R_mono (Kd.R_lower (Kd.R_bound ho0) HB.out.size) (fun k_ hk_ => ⟨hk_.2.1, hk_.2.2.1⟩)); obtain ⟨A_a0, c_a0, e_a0⟩ := Kd.R_slice ho0; subst e_a0; clear ho0; have Z1 := Aside0.mk (show w.heap.size ≤ w1.heap.size from hb.size); have HB' := Aside0.mk (below_step (by repeat (first | (with_reducible first | exact HB.out | apply below_alloc | apply pw_below_drewN | apply below_drew1) | exact HB.out)) hb); clear HB; have HB := HB'; clear HB'; clear E2) | (go_at_call 15; (with_reducible refine (laws_toByteS.calls (hr0 := (Kd.C_below HR_l1.out (by repeat (first | (with_reducible first | exact HB.out | apply below_alloc | apply pw_below_drewN | apply below_drew1) | exact HB.out)))) (hc0 := HC_l1.out) (h := E3.out)).mono ?_); rintro e w2 ⟨v0_, rfl, ho0, hb⟩; have H_a0' := Aside0.mk (Kd.R_below (by first | exact H_a0.out | exact Kd.R_drewN H_a0.out _) hb); have H_a1 := Aside0.mk (show Kd.R _ _ w2 w.heap.size (fun k_ => w1.heap.size ≤ k_ ∧ k_ < w2.heap.size) v0_ a1 from Kd.R_mono (Kd.R_lower (Kd.R_bound ho0) HB.out.size) (fun k_ hk_ => ⟨hk_.2.1, hk_.2.2.1⟩)); obtain ⟨A_a1, c_a1, e_a1⟩ := Kd.R_slice ho0; subst e_a1; clear ho0; have Z2 := Aside0.mk (show w1.heap.size ≤ w2.heap.size from hb.size); have HB' := Aside0.mk (below_step (by repeat (first | (with_reducible first | exact HB.out | apply below_alloc | apply pw_below_drewN | apply below_drew1) | exact HB.out)) hb); clear HB; have HB := HB'; clear HB'; clear H_a0; have H_a0 := H_a0'; clear H_a0'; clear E3) | (go_at_call 14; (with_reducible refine (spec_MakeDelta.calls (hr0 := (Kd.R_reads' (by first | exact H_a0.out | exact Kd.R_drewN H_a0.out _)).2.2) (hc0 := (Kd.R_reads' H_a0.out).2.1) (hr1 := (Kd.R_reads' (by first | exact H_a1.out | exact Kd.R_drewN H_a1.out _)).2.2) (hc1 := (Kd.R_reads' H_a1.out).2.1) (h := E4.out)).mono ?_); rintro e w3 ⟨v0_, rfl, ho0, hb⟩; have H_a0' := Aside0.mk (Kd.R_below (by first | exact H_a0.out | exact Kd.R_drewN H_a0.out _) hb); have H_a1' := Aside0.mk (Kd.R_below (by first | exact H_a1.out | exact Kd.R_drewN H_a1.out _) hb); have H_w0 := Aside0.mk (show Kd.S _ _ w3 w.heap.size (fun k_ => w2.heap.size ≤ k_ ∧ k_ < w3.heap.size) v0_ w0 from Kd.S_mono (Kd.S_lower (Kd.S_bound ho0) HB.out.size) (fun k_ hk_ => ⟨hk_.2.1, hk_.2.2.1⟩)); obtain ⟨A_w0, c_w0, e_w0⟩ := Kd.S_slice ho0; subst e_w0; clear ho0; have Z3 := Aside0.mk (show w2.heap.size ≤ w3.heap.size from hb.size); have HB' := Aside0.mk (below_step (by repeat (first | (with_reducible first | exact HB.out | apply below_alloc | apply pw_below_drewN | apply below_drew1) | exact HB.out)) hb); clear HB; have HB := HB'; clear HB'; clear H_a0; clear H_a1; have H_a0 := H_a0'; clear H_a0'; have H_a1 := H_a1'; clear H_a1'; clear H_a0; clear H_a1; clear E4) | (go_at_call 15; (with_reducible refine (laws_toByteS.calls (hr0 := (Kd.C_below HR_l0.out (by repeat (first | (with_reducible first | exact HB.out | apply below_alloc | apply pw_below_drewN | apply below_drew1) | exact HB.out)))) (hc0 := HC_l0.out) (h := E5.out)).mono ?_); rintro e w4 ⟨v0_, rfl, ho0, hb⟩; have H_w0' := Aside0.mk (Kd.S_below (by first | exact H_w0.out | exact Kd.S_drewN H_w0.out _) hb); have H_y0 := Aside0.mk (show Kd.R _ _ w4 w.heap.size (fun k_ => w3.heap.size ≤ k_ ∧ k_ < w4.heap.size) v0_ y0 from Kd.R_mono (Kd.R_lower (Kd.R_bound ho0) HB.out.size) (fun k_ hk_ => ⟨hk_.2.1, hk_.2.2.1⟩)); obtain ⟨A_y0, c_y0, e_y0⟩ := Kd.R_slice ho0; subst e_y0; clear ho0; have Z4 := Aside0.mk (show w3.heap.size ≤ w4.heap.size from hb.size); have HB' := Aside0.mk (below_step (by repeat (first | (with_reducible first | exact HB.out | apply below_alloc | apply pw_below_drewN | apply below_drew1) | exact HB.out)) hb); clear HB; have HB := HB'; clear HB'; clear H_w0; have H_w0 := H_w0'; clear H_w0'; clear E5) | (go_at_call 15; (with_reducible refine (laws_toByteS.calls (hr0 := (Kd.C_below HR_l1.out (by repeat (first | (with_reducible first | exact HB.out | apply below_alloc | apply pw_below_drewN | apply below_drew1) | exact HB.out)))) (hc0 := HC_l1.out) (h := E6.out)).mono ?_); rintro e w5 ⟨v0_, rfl, ho0, hb⟩; have H_w0' := Aside0.mk (Kd.S_below (by first | exact H_w0.out | exact Kd.S_drewN H_w0.out _) hb); have H_y0' := Aside0.mk (Kd.R_below (by first | exact H_y0.out | exact Kd.R_drewN H_y0.out _) hb); have H_y1 := Aside0.mk (show Kd.R _ _ w5 w.heap.size (fun k_ => w4.heap.size ≤ k_ ∧ k_ < w5.heap.size) v0_ y1 from Kd.R_mono (Kd.R_lower (Kd.R_bound ho0) HB.out.size) (fun k_ hk_ => ⟨hk_.2.1, hk_.2.2.1⟩)); obtain ⟨A_y1, c_y1, e_y1⟩ := Kd.R_slice ho0; subst e_y1; clear ho0; have Z5 := Aside0.mk (show w4.heap.size ≤ w5.heap.size from hb.size); have HB' := Aside0.mk (below_step (by repeat (first | (with_reducible first | exact HB.out | apply below_alloc | apply pw_below_drewN | apply below_drew1) | exact HB.out)) hb); clear HB; have HB := HB'; clear HB'; clear H_w0; clear H_y0; have H_w0 := H_w0'; clear H_w0'; have H_y0 := H_y0'; clear H_y0'; clear E6) | (go_at_call 16; (with_reducible refine (impl_MakeDelta.calls (hr0 := (Kd.R_reads' (by first | exact H_y0.out | exact Kd.R_drewN H_y0.out _)).2.2) (hc0 := (Kd.R_reads' H_y0.out).2.1) (hr1 := (Kd.R_reads' (by first | exact H_y1.out | exact Kd.R_drewN H_y1.out _)).2.2) (hc1 := (Kd.R_reads' H_y1.out).2.1) (h := E7.out)).mono ?_); rintro e w6 ⟨v0_, rfl, ho0, hb⟩; have H_w0' := Aside0.mk (Kd.S_below (by first | exact H_w0.out | exact Kd.S_drewN H_w0.out _) hb); have H_y0' := Aside0.mk (Kd.R_below (by first | exact H_y0.out | exact Kd.R_drewN H_y0.out _) hb); have H_y1' := Aside0.mk (Kd.R_below (by first | exact H_y1.out | exact Kd.R_drewN H_y1.out _) hb); have H_g0 := Aside0.mk (show Kd.S _ _ w6 w.heap.size (fun k_ => w5.heap.size ≤ k_ ∧ k_ < w6.heap.size) v0_ g0 from Kd.S_mono (Kd.S_lower (Kd.S_bound ho0) HB.out.size) (fun k_ hk_ => ⟨hk_.2.1, hk_.2.2.1⟩)); obtain ⟨A_g0, c_g0, e_g0⟩ := Kd.S_slice ho0; subst e_g0; clear ho0; have Z6 := Aside0.mk (show w5.heap.size ≤ w6.heap.size from hb.size); have HB' := Aside0.mk (below_step (by repeat (first | (with_reducible first | exact HB.out | apply below_alloc | apply pw_below_drewN | apply below_drew1) | exact HB.out)) hb); clear HB; have HB := HB'; clear HB'; clear H_w0; clear H_y0; clear H_y1; have H_w0 := H_w0'; clear H_w0'; have H_y0 := H_y0'; clear H_y0'; have H_y1 := H_y1'; clear H_y1'; clear E7) | (go_at_call 17; (with_reducible refine (laws_eqStepS.calls (hr0 := (Kd.S_reads' (by first | exact H_g0.out | exact Kd.S_drewN H_g0.out _)).2.2) (hc0 := (Kd.S_reads' H_g0.out).2.1) (hr1 := (Kd.S_reads' (by first | exact H_w0.out | exact Kd.S_drewN H_w0.out _)).2.2) (hc1 := (Kd.S_reads' H_w0.out).2.1) (h := E8.out)).mono ?_); rintro e w7 ⟨rfl, hd⟩; (first | have hb := below_of hd | have hb := hd); clear hd; have Z7 := Aside0.mk (show w6.heap.size ≤ w7.heap.size from hb.size); have HB' := Aside0.mk (below_step (by repeat (first | (with_reducible first | exact HB.out | apply below_alloc | apply pw_below_drewN | apply below_drew1) | exact HB.out)) hb); clear HB; have HB := HB'; clear HB'; have H_w0' := Aside0.mk (Kd.S_below (by first | exact H_w0.out | exact Kd.S_drewN H_w0.out _) hb); have H_y0' := Aside0.mk (Kd.R_below (by first | exact H_y0.out | exact Kd.R_drewN H_y0.out _) hb); have H_y1' := Aside0.mk (Kd.R_below (by first | exact H_y1.out | exact Kd.R_drewN H_y1.out _) hb); have H_g0' := Aside0.mk (Kd.S_below (by first | exact H_g0.out | exact Kd.S_drewN H_g0.out _) hb); clear H_w0; clear H_y0; clear H_y1; clear H_g0; have H_w0 := H_w0'; clear H_w0'; have H_y0 := H_y0'; clear H_y0'; have H_y1 := H_y1'; clear H_y1'; have H_g0 := H_g0'; clear H_g0'; clear E8) | (go_at_call 15; (with_reducible refine (laws_toByteS.calls (hr0 := (Kd.C_below HR_l0.out (by repeat (first | (with_reducible first | exact HB.out | apply below_alloc | apply pw_below_drewN | apply below_drew1) | exact HB.out)))) (hc0 := HC_l0.out) (h := E10.out)).mono ?_); rintro e w8 ⟨v0_, rfl, ho0, hb⟩; have H_w0' := Aside0.mk (Kd.S_below (by first | exact H_w0.out | exact Kd.S_drewN H_w0.out _) hb); have H_y0' := Aside0.mk (Kd.R_below (by first | exact H_y0.out | exact Kd.R_drewN H_y0.out _) hb); have H_y1' := Aside0.mk (Kd.R_below (by first | exact H_y1.out | exact Kd.R_drewN H_y1.out _) hb); have H_g0' := Aside0.mk (Kd.S_below (by first | exact H_g0.out | exact Kd.S_drewN H_g0.out _) hb); have H_b0 := Aside0.mk (show Kd.R _ _ w8 w.heap.size (fun k_ => w7.heap.size ≤ k_ ∧ k_ < w8.heap.size) v0_ b0 from Kd.R_mono (Kd.R_lower (Kd.R_bound ho0) HB.out.size) (fun k_ hk_ => ⟨hk_.2.1, hk_.2.2.1⟩)); obtain ⟨A_b0, c_b0, e_b0⟩ := Kd.R_slice ho0; subst e_b0; clear ho0; have Z8 := Aside0.mk (show w7.heap.size ≤ w8.heap.size from hb.size); have HB' := Aside0.mk (below_step (by repeat (first | (with_reducible first | exact HB.out | apply below_alloc | apply pw_below_drewN | apply below_drew1) | exact HB.out)) hb); clear HB; have HB := HB'; clear HB'; clear H_w0; clear H_y0; clear H_y1; clear H_g0; have H_w0 := H_w0'; clear H_w0'; have H_y0 := H_y0'; clear H_y0'; have H_y1 := H_y1'; clear H_y1'; have H_g0 := H_g0'; clear H_g0'; clear E10) | (go_at_call 18; (with_reducible refine (laws_eqByteS.calls (hr0 := (Kd.R_reads' (by first | exact H_y0.out | exact Kd.R_drewN H_y0.out _)).2.2) (hc0 := (Kd.R_reads' H_y0.out).2.1) (hr1 := (Kd.R_reads' (by first | exact H_b0.out | exact Kd.R_drewN H_b0.out _)).2.2) (hc1 := (Kd.R_reads' H_b0.out).2.1) (h := E11.out)).mono ?_); rintro e w9 ⟨rfl, hd⟩; (first | have hb := below_of hd | have hb := hd); clear hd; have Z9 := Aside0.mk (show w8.heap.size ≤ w9.heap.size from hb.size); have HB' := Aside0.mk (below_step (by repeat (first | (with_reducible first | exact HB.out | apply below_alloc | apply pw_below_drewN | apply below_drew1) | exact HB.out)) hb); clear HB; have HB := HB'; clear HB'; have H_w0' := Aside0.mk (Kd.S_below (by first | exact H_w0.out | exact Kd.S_drewN H_w0.out _) hb); have H_y0' := Aside0.mk (Kd.R_below (by first | exact H_y0.out | exact Kd.R_drewN H_y0.out _) hb); have H_y1' := Aside0.mk (Kd.R_below (by first | exact H_y1.out | exact Kd.R_drewN H_y1.out _) hb); have H_g0' := Aside0.mk (Kd.S_below (by first | exact H_g0.out | exact Kd.S_drewN H_g0.out _) hb); have H_b0' := Aside0.mk (Kd.R_below (by first | exact H_b0.out | exact Kd.R_drewN H_b0.out _) hb); clear H_w0; clear H_y0; clear H_y1; clear H_g0; clear H_b0; have H_w0 := H_w0'; clear H_w0'; have H_y0 := H_y0'; clear H_y0'; have H_y1 := H_y1'; clear H_y1'; have H_g0 := H_g0'; clear H_g0'; have H_b0 := H_b0'; clear H_b0'; clear H_b0; clear E11) | (go_at_call 15; (with_reducible refine (laws_toByteS.calls (hr0 := (Kd.C_below HR_l1.out (by repeat (first | (with_reducible first | exact HB.out | apply below_alloc | apply pw_below_drewN | apply below_drew1) | exact HB.out)))) (hc0 := HC_l1.out) (h := E13.out)).mono ?_); rintro e w10 ⟨v0_, rfl, ho0, hb⟩; have H_w0' := Aside0.mk (Kd.S_below (by first | exact H_w0.out | exact Kd.S_drewN H_w0.out _) hb); have H_y0' := Aside0.mk (Kd.R_below (by first | exact H_y0.out | exact Kd.R_drewN H_y0.out _) hb); have H_y1' := Aside0.mk (Kd.R_below (by first | exact H_y1.out | exact Kd.R_drewN H_y1.out _) hb); have H_g0' := Aside0.mk (Kd.S_below (by first | exact H_g0.out | exact Kd.S_drewN H_g0.out _) hb); have H_b1 := Aside0.mk (show Kd.R _ _ w10 w.heap.size (fun k_ => w9.heap.size ≤ k_ ∧ k_ < w10.heap.size) v0_ b1 from Kd.R_mono (Kd.R_lower (Kd.R_bound ho0) HB.out.size) (fun k_ hk_ => ⟨hk_.2.1, hk_.2.2.1⟩)); obtain ⟨A_b1, c_b1, e_b1⟩ := Kd.R_slice ho0; subst e_b1; clear ho0; have Z10 := Aside0.mk (show w9.heap.size ≤ w10.heap.size from hb.size); have HB' := Aside0.mk (below_step (by repeat (first | (with_reducible first | exact HB.out | apply below_alloc | apply pw_below_drewN | apply below_drew1) | exact HB.out)) hb); clear HB; have HB := HB'; clear HB'; clear H_w0; clear H_y0; clear H_y1; clear H_g0; have H_w0 := H_w0'; clear H_w0'; have H_y0 := H_y0'; clear H_y0'; have H_y1 := H_y1'; clear H_y1'; have H_g0 := H_g0'; clear H_g0'; clear E13) | (go_at_call 18; (with_reducible refine (laws_eqByteS.calls (hr0 := (Kd.R_reads' (by first | exact H_y1.out | exact Kd.R_drewN H_y1.out _)).2.2) (hc0 := (Kd.R_reads' H_y1.out).2.1) (hr1 := (Kd.R_reads' (by first | exact H_b1.out | exact Kd.R_drewN H_b1.out _)).2.2) (hc1 := (Kd.R_reads' H_b1.out).2.1) (h := E14.out)).mono ?_); rintro e w11 ⟨rfl, hd⟩; (first | have hb := below_of hd | have hb := hd); clear hd; have Z11 := Aside0.mk (show w10.heap.size ≤ w11.heap.size from hb.size); have HB' := Aside0.mk (below_step (by repeat (first | (with_reducible first | exact HB.out | apply below_alloc | apply pw_below_drewN | apply below_drew1) | exact HB.out)) hb); clear HB; have HB := HB'; clear HB'; have H_w0' := Aside0.mk (Kd.S_below (by first | exact H_w0.out | exact Kd.S_drewN H_w0.out _) hb); have H_y0' := Aside0.mk (Kd.R_below (by first | exact H_y0.out | exact Kd.R_drewN H_y0.out _) hb); have H_y1' := Aside0.mk (Kd.R_below (by first | exact H_y1.out | exact Kd.R_drewN H_y1.out _) hb); have H_g0' := Aside0.mk (Kd.S_below (by first | exact H_g0.out | exact Kd.S_drewN H_g0.out _) hb); have H_b1' := Aside0.mk (Kd.R_below (by first | exact H_b1.out | exact Kd.R_drewN H_b1.out _) hb); clear H_w0; clear H_y0; clear H_y1; clear H_g0; clear H_b1; have H_w0 := H_w0'; clear H_w0'; have H_y0 := H_y0'; clear H_y0'; have H_y1 := H_y1'; clear H_y1'; have H_g0 := H_g0'; clear H_g0'; have H_b1 := H_b1'; clear H_b1'; clear H_b1; clear E14) | (go_at_call 19; (with_reducible refine (laws_markByteS.calls (w0 := w) (hB := by repeat (first | (with_reducible first | exact HB.out | apply below_alloc | apply pw_below_drewN | apply below_drew1) | exact HB.out)) (ho0 := by first | exact H_y0.out | exact Kd.R_drewN H_y0.out _) (h := E16.out)).mono ?_); rintro e w12 ⟨rfl, ho, hb0, hk⟩; have hl := (Kd.R_reads' ho).1; have Z12 := Aside0.mk (show w11.heap.size ≤ w12.heap.size from hk.1); have H_w0' := Aside0.mk (Kd.S_kept (by first | exact H_w0.out | exact Kd.S_drewN H_w0.out _) hk (fun k_ h1_ h2_ => by have h1_ : w2.heap.size ≤ k_ ∧ k_ < w3.heap.size := h1_; have h2_ : w3.heap.size ≤ k_ ∧ k_ < w4.heap.size := h2_; have := Z1.out; have := Z2.out; have := Z3.out; have := Z4.out; have := Z5.out; have := Z6.out; have := Z7.out; have := Z8.out; have := Z9.out; have := Z10.out; have := Z11.out; have := Z12.out; omega)); have H_y1' := Aside0.mk (Kd.R_kept (by first | exact H_y1.out | exact Kd.R_drewN H_y1.out _) hk (fun k_ h1_ h2_ => by have h1_ : w4.heap.size ≤ k_ ∧ k_ < w5.heap.size := h1_; have h2_ : w3.heap.size ≤ k_ ∧ k_ < w4.heap.size := h2_; have := Z1.out; have := Z2.out; have := Z3.out; have := Z4.out; have := Z5.out; have := Z6.out; have := Z7.out; have := Z8.out; have := Z9.out; have := Z10.out; have := Z11.out; have := Z12.out; omega)); have H_g0' := Aside0.mk (Kd.S_kept (by first | exact H_g0.out | exact Kd.S_drewN H_g0.out _) hk (fun k_ h1_ h2_ => by have h1_ : w5.heap.size ≤ k_ ∧ k_ < w6.heap.size := h1_; have h2_ : w3.heap.size ≤ k_ ∧ k_ < w4.heap.size := h2_; have := Z1.out; have := Z2.out; have := Z3.out; have := Z4.out; have := Z5.out; have := Z6.out; have := Z7.out; have := Z8.out; have := Z9.out; have := Z10.out; have := Z11.out; have := Z12.out; omega)); have HB' := Aside0.mk hb0; clear HB; have HB := HB'; clear HB' hb0 hk; rw [hl] at ho; have H_y0' := Aside0.mk (Kd.R_bound ho); rw [hl]; clear ho; clear H_w0; clear H_y0; clear H_y1; clear H_g0; have H_w0 := H_w0'; clear H_w0'; have H_z0 := H_y0'; clear H_y0'; have H_y1 := H_y1'; clear H_y1'; have H_g0 := H_g0'; clear H_g0'; clear H_z0; clear E16) | (go_at_call 19; (with_reducible refine (laws_markByteS.calls (w0 := w) (hB := by repeat (first | (with_reducible first | exact HB.out | apply below_alloc | apply pw_below_drewN | apply below_drew1) | exact HB.out)) (ho0 := by first | exact H_y1.out | exact Kd.R_drewN H_y1.out _) (h := E17.out)).mono ?_); rintro e w13 ⟨rfl, ho, hb0, hk⟩; have hl := (Kd.R_reads' ho).1; have Z13 := Aside0.mk (show w12.heap.size ≤ w13.heap.size from hk.1); have H_w0' := Aside0.mk (Kd.S_kept (by first | exact H_w0.out | exact Kd.S_drewN H_w0.out _) hk (fun k_ h1_ h2_ => by have h1_ : w2.heap.size ≤ k_ ∧ k_ < w3.heap.size := h1_; have h2_ : w4.heap.size ≤ k_ ∧ k_ < w5.heap.size := h2_; have := Z1.out; have := Z2.out; have := Z3.out; have := Z4.out; have := Z5.out; have := Z6.out; have := Z7.out; have := Z8.out; have := Z9.out; have := Z10.out; have := Z11.out; have := Z12.out; have := Z13.out; omega)); have H_g0' := Aside0.mk (Kd.S_kept (by first | exact H_g0.out | exact Kd.S_drewN H_g0.out _) hk (fun k_ h1_ h2_ => by have h1_ : w5.heap.size ≤ k_ ∧ k_ < w6.heap.size := h1_; have h2_ : w4.heap.size ≤ k_ ∧ k_ < w5.heap.size := h2_; have := Z1.out; have := Z2.out; have := Z3.out; have := Z4.out; have := Z5.out; have := Z6.out; have := Z7.out; have := Z8.out; have := Z9.out; have := Z10.out; have := Z11.out; have := Z12.out; have := Z13.out; omega)); have HB' := Aside0.mk hb0; clear HB; have HB := HB'; clear HB' hb0 hk; rw [hl] at ho; have H_y1' := Aside0.mk (Kd.R_bound ho); rw [hl]; clear ho; clear H_w0; clear H_y1; clear H_g0; have H_w0 := H_w0'; clear H_w0'; have H_z1 := H_y1'; clear H_y1'; have H_g0 := H_g0'; clear H_g0'; clear H_z1; clear E17) | (go_at_call 17; (with_reducible refine (laws_eqStepS.calls (hr0 := (Kd.S_reads' (by first | exact H_g0.out | exact Kd.S_drewN H_g0.out _)).2.2) (hc0 := (Kd.S_reads' H_g0.out).2.1) (hr1 := (Kd.S_reads' (by first | exact H_w0.out | exact Kd.S_drewN H_w0.out _)).2.2) (hc1 := (Kd.S_reads' H_w0.out).2.1) (h := E19.out)).mono ?_); rintro e w14 ⟨rfl, hd⟩; (first | have hb := below_of hd | have hb := hd); clear hd; have Z14 := Aside0.mk (show w13.heap.size ≤ w14.heap.size from hb.size); have HB' := Aside0.mk (below_step (by repeat (first | (with_reducible first | exact HB.out | apply below_alloc | apply pw_below_drewN | apply below_drew1) | exact HB.out)) hb); clear HB; have HB := HB'; clear HB'; have H_w0' := Aside0.mk (Kd.S_below (by first | exact H_w0.out | exact Kd.S_drewN H_w0.out _) hb); have H_g0' := Aside0.mk (Kd.S_below (by first | exact H_g0.out | exact Kd.S_drewN H_g0.out _) hb); clear H_w0; clear H_g0; have H_w0 := H_w0'; clear H_w0'; have H_g0 := H_g0'; clear H_g0'; clear E19) | (go_at_call 20; (with_reducible refine (laws_markStepS.calls (w0 := w) (hB := by repeat (first | (with_reducible first | exact HB.out | apply below_alloc | apply pw_below_drewN | apply below_drew1) | exact HB.out)) (ho0 := by first | exact H_g0.out | exact Kd.S_drewN H_g0.out _) (h := E21.out)).mono ?_); rintro e w15 ⟨rfl, ho, hb0, hk⟩; have hl := (Kd.S_reads' ho).1; have Z15 := Aside0.mk (show w14.heap.size ≤ w15.heap.size from hk.1); have H_w0' := Aside0.mk (Kd.S_kept (by first | exact H_w0.out | exact Kd.S_drewN H_w0.out _) hk (fun k_ h1_ h2_ => by have h1_ : w2.heap.size ≤ k_ ∧ k_ < w3.heap.size := h1_; have h2_ : w5.heap.size ≤ k_ ∧ k_ < w6.heap.size := h2_; have := Z1.out; have := Z2.out; have := Z3.out; have := Z4.out; have := Z5.out; have := Z6.out; have := Z7.out; have := Z8.out; have := Z9.out; have := Z10.out; have := Z11.out; have := Z12.out; have := Z13.out; have := Z14.out; have := Z15.out; omega)); have HB' := Aside0.mk hb0; clear HB; have HB := HB'; clear HB' hb0 hk; rw [hl] at ho; have H_g0' := Aside0.mk (Kd.S_bound ho); rw [hl]; clear ho; clear H_w0; clear H_g0; have H_w0 := H_w0'; clear H_w0'; have H_e0 := H_g0'; clear H_g0'; clear E21) | (go_at_call 21; (with_reducible refine (laws_heldStepS.calls (hr0 := (Kd.S_reads' (by first | exact H_e0.out | exact Kd.S_drewN H_e0.out _)).2.2) (hc0 := (Kd.S_reads' H_e0.out).2.1) (h := E22.out)).mono ?_); rintro e w16 ⟨rfl, hd⟩; (first | have hb := below_of hd | have hb := hd); clear hd; have Z16 := Aside0.mk (show w15.heap.size ≤ w16.heap.size from hb.size); have HB' := Aside0.mk (below_step (by repeat (first | (with_reducible first | exact HB.out | apply below_alloc | apply pw_below_drewN | apply below_drew1) | exact HB.out)) hb); clear HB; have HB := HB'; clear HB'; have H_w0' := Aside0.mk (Kd.S_below (by first | exact H_w0.out | exact Kd.S_drewN H_w0.out _) hb); have H_e0' := Aside0.mk (Kd.S_below (by first | exact H_e0.out | exact Kd.S_drewN H_e0.out _) hb); clear H_w0; clear H_e0; have H_w0 := H_w0'; clear H_w0'; have H_e0 := H_e0'; clear H_e0'; clear E22) | (go_at_call 15; (with_reducible refine (laws_toByteS.calls (hr0 := (Kd.C_below HR_l0.out (by repeat (first | (with_reducible first | exact HB.out | apply below_alloc | apply pw_below_drewN | apply below_drew1) | exact HB.out)))) (hc0 := HC_l0.out) (h := E25.out)).mono ?_); rintro e w17 ⟨v0_, rfl, ho0, hb⟩; have H_w0' := Aside0.mk (Kd.S_below (by first | exact H_w0.out | exact Kd.S_drewN H_w0.out _) hb); have H_e0' := Aside0.mk (Kd.S_below (by first | exact H_e0.out | exact Kd.S_drewN H_e0.out _) hb); have H_d0 := Aside0.mk (show Kd.R _ _ w17 w.heap.size (fun k_ => w16.heap.size ≤ k_ ∧ k_ < w17.heap.size) v0_ d0 from Kd.R_mono (Kd.R_lower (Kd.R_bound ho0) HB.out.size) (fun k_ hk_ => ⟨hk_.2.1, hk_.2.2.1⟩)); obtain ⟨A_d0, c_d0, e_d0⟩ := Kd.R_slice ho0; subst e_d0; clear ho0; have Z17 := Aside0.mk (show w16.heap.size ≤ w17.heap.size from hb.size); have HB' := Aside0.mk (below_step (by repeat (first | (with_reducible first | exact HB.out | apply below_alloc | apply pw_below_drewN | apply below_drew1) | exact HB.out)) hb); clear HB; have HB := HB'; clear HB'; clear H_w0; clear H_e0; have H_w0 := H_w0'; clear H_w0'; have H_e0 := H_e0'; clear H_e0'; clear E25) | (go_at_call 15; (with_reducible refine (laws_toByteS.calls (hr0 := (Kd.C_below HR_l1.out (by repeat (first | (with_reducible first | exact HB.out | apply below_alloc | apply pw_below_drewN | apply below_drew1) | exact HB.out)))) (hc0 := HC_l1.out) (h := E26.out)).mono ?_); rintro e w18 ⟨v0_, rfl, ho0, hb⟩; have H_w0' := Aside0.mk (Kd.S_below (by first | exact H_w0.out | exact Kd.S_drewN H_w0.out _) hb); have H_e0' := Aside0.mk (Kd.S_below (by first | exact H_e0.out | exact Kd.S_drewN H_e0.out _) hb); have H_d0' := Aside0.mk (Kd.R_below (by first | exact H_d0.out | exact Kd.R_drewN H_d0.out _) hb); have H_d1 := Aside0.mk (show Kd.R _ _ w18 w.heap.size (fun k_ => w17.heap.size ≤ k_ ∧ k_ < w18.heap.size) v0_ d1 from Kd.R_mono (Kd.R_lower (Kd.R_bound ho0) HB.out.size) (fun k_ hk_ => ⟨hk_.2.1, hk_.2.2.1⟩)); obtain ⟨A_d1, c_d1, e_d1⟩ := Kd.R_slice ho0; subst e_d1; clear ho0; have Z18 := Aside0.mk (show w17.heap.size ≤ w18.heap.size from hb.size); have HB' := Aside0.mk (below_step (by repeat (first | (with_reducible first | exact HB.out | apply below_alloc | apply pw_below_drewN | apply below_drew1) | exact HB.out)) hb); clear HB; have HB := HB'; clear HB'; clear H_w0; clear H_e0; clear H_d0; have H_w0 := H_w0'; clear H_w0'; have H_e0 := H_e0'; clear H_e0'; have H_d0 := H_d0'; clear H_d0'; clear E26) | (go_at_call 16; (with_reducible refine (impl_MakeDelta.calls (hr0 := (Kd.R_reads' (by first | exact H_d0.out | exact Kd.R_drewN H_d0.out _)).2.2) (hc0 := (Kd.R_reads' H_d0.out).2.1) (hr1 := (Kd.R_reads' (by first | exact H_d1.out | exact Kd.R_drewN H_d1.out _)).2.2) (hc1 := (Kd.R_reads' H_d1.out).2.1) (h := E27.out)).mono ?_); rintro e w19 ⟨v0_, rfl, ho0, hb⟩; have H_w0' := Aside0.mk (Kd.S_below (by first | exact H_w0.out | exact Kd.S_drewN H_w0.out _) hb); have H_e0' := Aside0.mk (Kd.S_below (by first | exact H_e0.out | exact Kd.S_drewN H_e0.out _) hb); have H_d0' := Aside0.mk (Kd.R_below (by first | exact H_d0.out | exact Kd.R_drewN H_d0.out _) hb); have H_d1' := Aside0.mk (Kd.R_below (by first | exact H_d1.out | exact Kd.R_drewN H_d1.out _) hb); have H_h0 := Aside0.mk (show Kd.S _ _ w19 w.heap.size (fun k_ => w18.heap.size ≤ k_ ∧ k_ < w19.heap.size) v0_ h0 from Kd.S_mono (Kd.S_lower (Kd.S_bound ho0) HB.out.size) (fun k_ hk_ => ⟨hk_.2.1, hk_.2.2.1⟩)); obtain ⟨A_h0, c_h0, e_h0⟩ := Kd.S_slice ho0; subst e_h0; clear ho0; have Z19 := Aside0.mk (show w18.heap.size ≤ w19.heap.size from hb.size); have HB' := Aside0.mk (below_step (by repeat (first | (with_reducible first | exact HB.out | apply below_alloc | apply pw_below_drewN | apply below_drew1) | exact HB.out)) hb); clear HB; have HB := HB'; clear HB'; clear H_w0; clear H_e0; clear H_d0; clear H_d1; have H_w0 := H_w0'; clear H_w0'; have H_e0 := H_e0'; clear H_e0'; have H_d0 := H_d0'; clear H_d0'; have H_d1 := H_d1'; clear H_d1'; clear H_d0; clear H_d1; clear E27) | (go_at_call 17; (with_reducible refine (laws_eqStepS.calls (hr0 := (Kd.S_reads' (by first | exact H_h0.out | exact Kd.S_drewN H_h0.out _)).2.2) (hc0 := (Kd.S_reads' H_h0.out).2.1) (hr1 := (Kd.S_reads' (by first | exact H_w0.out | exact Kd.S_drewN H_w0.out _)).2.2) (hc1 := (Kd.S_reads' H_w0.out).2.1) (h := E28.out)).mono ?_); rintro e w20 ⟨rfl, hd⟩; (first | have hb := below_of hd | have hb := hd); clear hd; have Z20 := Aside0.mk (show w19.heap.size ≤ w20.heap.size from hb.size); have HB' := Aside0.mk (below_step (by repeat (first | (with_reducible first | exact HB.out | apply below_alloc | apply pw_below_drewN | apply below_drew1) | exact HB.out)) hb); clear HB; have HB := HB'; clear HB'; have H_w0' := Aside0.mk (Kd.S_below (by first | exact H_w0.out | exact Kd.S_drewN H_w0.out _) hb); have H_e0' := Aside0.mk (Kd.S_below (by first | exact H_e0.out | exact Kd.S_drewN H_e0.out _) hb); have H_h0' := Aside0.mk (Kd.S_below (by first | exact H_h0.out | exact Kd.S_drewN H_h0.out _) hb); clear H_w0; clear H_e0; clear H_h0; have H_w0 := H_w0'; clear H_w0'; have H_e0 := H_e0'; clear H_e0'; have H_h0 := H_h0'; clear H_h0'; clear H_w0; clear H_h0; clear E28) | (go_at_call 21; (with_reducible refine (laws_heldStepS.calls (hr0 := (Kd.S_reads' (by first | exact H_e0.out | exact Kd.S_drewN H_e0.out _)).2.2) (hc0 := (Kd.S_reads' H_e0.out).2.1) (h := E30.out)).mono ?_); rintro e w21 ⟨rfl, hd⟩; (first | have hb := below_of hd | have hb := hd); clear hd; have Z21 := Aside0.mk (show w20.heap.size ≤ w21.heap.size from hb.size); have HB' := Aside0.mk (below_step (by repeat (first | (with_reducible first | exact HB.out | apply below_alloc | apply pw_below_drewN | apply below_drew1) | exact HB.out)) hb); clear HB; have HB := HB'; clear HB'; have H_e0' := Aside0.mk (Kd.S_below (by first | exact H_e0.out | exact Kd.S_drewN H_e0.out _) hb); clear H_e0; have H_e0 := H_e0'; clear H_e0'; clear H_e0; clear E30))
  go_ret
  exact ⟨rfl, by repeat (first | (with_reducible first | exact HB.out | apply below_alloc | apply pw_below_drewN | apply below_drew1) | exact HB.out)⟩

/-- THE ONE PURE STATEMENT of laws_FnExactMakeDelta: yours. -/
def laws_FnExactMakeDelta.Pure : Prop := ∀ (l0 : List Int) (l1 : List Int), (l0.length ≤ maxLen ∧ ∀ y0 ∈ l0, (Lit.int .u8 y0).wf = true) → (l1.length ≤ maxLen ∧ ∀ y0 ∈ l1, (Lit.int .u8 y0).wf = true) → ∃ k, laws_FnExactMakeDelta.f k l0 l1 = some true
theorem laws_FnExactMakeDelta.walk (P : laws_FnExactMakeDelta.Pure) (A0 : Option Addr) (c0 : Nat) (l0 : List Int) (A1 : Option Addr) (c1 : Nat) (l1 : List Int) (w : World) (hr0 : Kd.C (Kd.int .u8) w A0 l0.length l0) (hc0 : l0.length ≤ c0) (hr1 : Kd.C (Kd.int .u8) w A1 l1.length l1) (hc1 : l1.length ≤ c1) (ok0 : (l0.length ≤ maxLen ∧ ∀ y0 ∈ l0, (Lit.int .u8 y0).wf = true)) (ok1 : (l1.length ≤ maxLen ∧ ∀ y0 ∈ l1, (Lit.int .u8 y0).wf = true)) :
    Calls Try.prog 3 #[.slice A0 l0.length c0, .slice A1 l1.length c1] w fun e w' => e = .returned (.bool true) ∧ Below w.heap.size w w' := by
  obtain ⟨k, h⟩ := P l0 l1 ok0 ok1
  refine (laws_FnExactMakeDelta.calls k _ _ l0 _ _ l1 true w hr0 hc0 hr1 hc1 h).mono ?_
  rintro e w' ⟨rfl, hd⟩
  exact ⟨rfl, hd⟩
end Go.Proofs.Ytkijlpiiiejjkaa.PFnExactMakeDelta
