-- Laid by a program of this session: a turned copy of the kit's print, with contracts by hand beside.
import Derived.Test.YtoipkndeeeolcaaPFnExactPlainx0
import Derived.Test.YtoipkndeeeolcaaPFnExactPlainx1
import Derived.Test.YtoipkndeeeolcaaPFnExactPlainx2
namespace Go.Proofs.Ytoipkndeeeolcaa.PFnExactPlain
open Go.RowKit Go.Proofs.YtoipkndeeeolcaaW.PrintWords Go.Proofs.YtoipkndeeeolcaaW.PrintLast Go.Proofs.YtoipkndeeeolcaaW.PrintMore
attribute [local go_sem] max2_int min2_int max_two min_two max_three min_three max_four min_four   -- for this text's walks alone
set_option linter.unusedVariables false
set_option linter.unusedSimpArgs false

/-! ### spec_l7Ok: function 27 -/
mutual
def spec_l7Ok.j0 : Nat → List (S45) → Int → Bool → Option (Bool)
  | 0, _, _, _ => none
  | k + 1, x0, x1, x23 => if x23 = true then (some false) else (spec_l7Ok.l0 k x0 x1 0 1)
def spec_l7Ok.l0 : Nat → List (S45) → Int → Int → Int → Option (Bool)
  | 0, _, _, _, _ => none
  | k + 1, x0, x1, x5, x6 => if x6 < (x0.length : Int) then (if 0 ≤ x6 then (if ((rd_T45 x0 x6).f2) < 0 then (some false) else (if ((rd_T45 x0 x6).f2) > (wrap64 ((wrap64 ((x0.length : Int) - x6)) - 1)) then (some false) else (if x6 ≤ (hi44 x0 x6) then (if (hi44 x0 x6) ≤ (x0.length : Int) then ((spec_l7Ok.f k ((x0.take ((hi44 x0 x6) : Int).toNat).drop (x6 : Int).toNat) (wrap64 (x1 + 1))).bind fun t118 => (if t118 = true then (spec_l7Ok.l0 k x0 x1 (wrap64 (x5 + 1)) (wrap64 ((wrap64 (x6 + 1)) + ((rd_T45 x0 x6).f2)))) else (some false))) else (none)) else (none)))) else (none)) else (if 0 < (x0.length : Int) then (if ((rd_T45 x0 0).f0) = 1 then (if x5 = 0 then ((spec_NameOk.f k ((rd_T45 x0 0).f1)).bind fun t122 => (if t122 = true then (if ((rd_T45 x0 0).f1).toList = ([116, 114, 117, 101] : List UInt8) then (some false) else (some (((rd_T45 x0 0).f1).toList != ([102, 97, 108, 115, 101] : List UInt8)))) else (some false))) else (some false)) else (if ((rd_T45 x0 0).f0) = 2 then (spec_l7Ok.j2 k x0 x5 ((rd_T45 x0 0).f0) (((rd_T45 x0 0).f0) == 2)) else (spec_l7Ok.j2 k x0 x5 ((rd_T45 x0 0).f0) (((rd_T45 x0 0).f0) == 3)))) else (none))
def spec_l7Ok.j2 : Nat → List (S45) → Int → Int → Bool → Option (Bool)
  | 0, _, _, _, _ => none
  | k + 1, x0, x5, x69, x95 => if x95 = true then (if x5 = 0 then (if 0 < (x0.length : Int) then (some (((rd_T45 x0 0).f1).toList == ([] : List UInt8))) else (none)) else (some false)) else (if x69 = 4 then (if x5 = 1 then (if 0 < (x0.length : Int) then (some (((rd_T45 x0 0).f1).toList == ([] : List UInt8))) else (none)) else (some false)) else (if 0 < (x0.length : Int) then (if ((rd_T45 x0 0).f0) = 5 then (if x5 ≥ 2 then (some (((rd_T45 x0 0).f1).toList == ([] : List UInt8))) else (some false)) else (if ((rd_T45 x0 0).f0) = 6 then (if x5 ≥ 2 then (some (((rd_T45 x0 0).f1).toList == ([] : List UInt8))) else (some false)) else (some false))) else (none)))
def spec_l7Ok.f : Nat → List (S45) → Int → Option (Bool)
  | 0, _, _ => none
  | k + 1, l0, a1 => if (l0.length : Int) = 0 then (spec_l7Ok.j0 k l0 a1 true) else (if a1 > 60 then (spec_l7Ok.j0 k l0 a1 true) else (if 0 < (l0.length : Int) then (spec_l7Ok.j0 k l0 a1 (((rd_T45 l0 0).f2) != (wrap64 ((l0.length : Int) - 1)))) else (none)))
end
theorem spec_l7Ok.mono_l : ∀ k, (∀ y0 y1, LeO (spec_l7Ok.f k y0 y1) (spec_l7Ok.f (k + 1) y0 y1)) ∧ (∀ y0 y1 y2, LeO (spec_l7Ok.j0 k y0 y1 y2) (spec_l7Ok.j0 (k + 1) y0 y1 y2)) ∧ (∀ y0 y1 y2 y3, LeO (spec_l7Ok.l0 k y0 y1 y2 y3) (spec_l7Ok.l0 (k + 1) y0 y1 y2 y3)) ∧ (∀ y0 y1 y2 y3, LeO (spec_l7Ok.j2 k y0 y1 y2 y3) (spec_l7Ok.j2 (k + 1) y0 y1 y2 y3))
  | 0 => ⟨fun _ _ r h => by simp [spec_l7Ok.f] at h, fun _ _ _ r h => by simp [spec_l7Ok.j0] at h, fun _ _ _ _ r h => by simp [spec_l7Ok.l0] at h, fun _ _ _ _ r h => by simp [spec_l7Ok.j2] at h⟩
  | k + 1 => by
    obtain ⟨ih0, ih1, ih2, ih3⟩ := spec_l7Ok.mono_l k
    refine ⟨?_, ?_, ?_, ?_⟩
    · intro y0 y1
      unfold spec_l7Ok.f
      repeat' first
      | (with_reducible exact ih0 _ _)
      | (with_reducible exact ih1 _ _ _)
      | (with_reducible exact ih2 _ _ _ _)
      | (with_reducible exact ih3 _ _ _ _)
      | (with_reducible exact spec_NameOk.mono _ _)
      | (with_reducible exact LeO.refl _)
      | (with_reducible exact LeO.none _)
      | (with_reducible refine LeO.ite ?_ ?_)
      | (with_reducible refine LeO.bind ?_ (fun _ => ?_))
      | exact ih0 _ _
      | exact ih1 _ _ _
      | exact ih2 _ _ _ _
      | exact ih3 _ _ _ _
      | exact spec_NameOk.mono _ _
      | exact LeO.none _
      | refine LeO.ite ?_ ?_
      | refine LeO.bind ?_ (fun _ => ?_)
    · intro y0 y1 y2
      unfold spec_l7Ok.j0
      repeat' first
      | (with_reducible exact ih0 _ _)
      | (with_reducible exact ih1 _ _ _)
      | (with_reducible exact ih2 _ _ _ _)
      | (with_reducible exact ih3 _ _ _ _)
      | (with_reducible exact spec_NameOk.mono _ _)
      | (with_reducible exact LeO.refl _)
      | (with_reducible exact LeO.none _)
      | (with_reducible refine LeO.ite ?_ ?_)
      | (with_reducible refine LeO.bind ?_ (fun _ => ?_))
      | exact ih0 _ _
      | exact ih1 _ _ _
      | exact ih2 _ _ _ _
      | exact ih3 _ _ _ _
      | exact spec_NameOk.mono _ _
      | exact LeO.none _
      | refine LeO.ite ?_ ?_
      | refine LeO.bind ?_ (fun _ => ?_)
    · intro y0 y1 y2 y3
      unfold spec_l7Ok.l0
      repeat' first
      | (with_reducible exact ih0 _ _)
      | (with_reducible exact ih1 _ _ _)
      | (with_reducible exact ih2 _ _ _ _)
      | (with_reducible exact ih3 _ _ _ _)
      | (with_reducible exact spec_NameOk.mono _ _)
      | (with_reducible exact LeO.refl _)
      | (with_reducible exact LeO.none _)
      | (with_reducible refine LeO.ite ?_ ?_)
      | (with_reducible refine LeO.bind ?_ (fun _ => ?_))
      | exact ih0 _ _
      | exact ih1 _ _ _
      | exact ih2 _ _ _ _
      | exact ih3 _ _ _ _
      | exact spec_NameOk.mono _ _
      | exact LeO.none _
      | refine LeO.ite ?_ ?_
      | refine LeO.bind ?_ (fun _ => ?_)
    · intro y0 y1 y2 y3
      unfold spec_l7Ok.j2
      repeat' first
      | (with_reducible exact ih0 _ _)
      | (with_reducible exact ih1 _ _ _)
      | (with_reducible exact ih2 _ _ _ _)
      | (with_reducible exact ih3 _ _ _ _)
      | (with_reducible exact spec_NameOk.mono _ _)
      | (with_reducible exact LeO.refl _)
      | (with_reducible exact LeO.none _)
      | (with_reducible refine LeO.ite ?_ ?_)
      | (with_reducible refine LeO.bind ?_ (fun _ => ?_))
      | exact ih0 _ _
      | exact ih1 _ _ _
      | exact ih2 _ _ _ _
      | exact ih3 _ _ _ _
      | exact spec_NameOk.mono _ _
      | exact LeO.none _
      | refine LeO.ite ?_ ?_
      | refine LeO.bind ?_ (fun _ => ?_)
theorem spec_l7Ok.mono : ∀ a0 a1 k, LeO (spec_l7Ok.f k a0 a1) (spec_l7Ok.f (k + 1) a0 a1) := by
  intro a0 a1 k
  obtain ⟨ih0, ih1, ih2, ih3⟩ := spec_l7Ok.mono_l k
  exact ih0 a0 a1
set_option maxHeartbeats 8000000 in
set_option maxRecDepth 100000 in
theorem spec_l7Ok.calls (k : Nat) : ∀ (A0 : Option Addr) (c0 : Nat) (l0 : List (S45)) (a1 : Int) (r : Bool) (w : World) (hr0 : Kd.C k45 w A0 l0.length l0) (hc0 : l0.length ≤ c0) (h : spec_l7Ok.f k l0 a1 = some r),
    Calls Try.prog 27 #[.slice A0 l0.length c0, .int .i64 a1] w fun e w' => e = .returned (.bool r) ∧ Drawn0 w w' := by
  induction k using Nat.strongRecOn with
  | _ k ih =>
  intro A0 c0 l0 a1 r w hr0 hc0 h
  cases k with
  | zero => exact absurd h (by simp [spec_l7Ok.f])
  | succ k =>
  simp only [spec_l7Ok.f] at h
  have HR0 := Aside0.mk hr0
  have HC0 := Aside0.mk hc0
  clear hr0 hc0
  have H : (if (l0.length : Int) = 0 then (spec_l7Ok.j0 k l0 a1 true) else (if a1 > 60 then (spec_l7Ok.j0 k l0 a1 true) else (if 0 < (l0.length : Int) then (spec_l7Ok.j0 k l0 a1 (((rd_T45 l0 0).f2) != (wrap64 ((l0.length : Int) - 1)))) else (none)))) = some r := h
  clear h
  have HC3 := Aside0.mk H
  clear H
  go_enter Try.func27, Try.ntmps27
  go_upto_region 1 with (fail)
  go_cut [23] (fun v23 wc => ∃ (kq : Nat) (x23_2 : Bool), v23 = .bool x23_2 ∧ Aside0 (spec_l7Ok.j0 kq l0 a1 x23_2 = some r) ∧ Aside0 (kq ≤ k) ∧ Drawn0 w wc)
  case first =>
    have H := HC3.out
    clear HC3
    by_cases c4 : (l0.length : Int) = 0
    · rw [if_pos c4] at H
      have c4b0 : ((l0.length : Int) == 0) = true := beq_iff_eq.mpr c4
      have c4b1 : ((l0.length : Int) != 0) = false := bne_eq_false_iff_eq.mpr c4
      clear c4
      (first | rw [c4b0] | (simp only [i64_w, i32_w]; rw [c4b0]) | skip)
      have H' := Aside0.mk H
      clear H
      go_wp2
      go_meet
      case rel => exact ⟨_, (true), (by first | rfl | (simp; done) | (simp [*]; done)), H', ⟨by first | omega | exact Nat.le_refl _⟩, by repeat (first | exact Drawn0.refl _ | apply Drawn0.step)⟩
    · rw [if_neg c4] at H
      have c4b0 : ((l0.length : Int) == 0) = false := beq_eq_false_iff_ne.mpr c4
      have c4b1 : ((l0.length : Int) != 0) = true := bne_iff_ne.mpr c4
      have c4b2 : ¬ (l0 = []) := fun h_ => c4 (by rw [h_]; rfl)
      (first | rw [c4b0] | (simp only [i64_w, i32_w]; rw [c4b0]) | skip)
      by_cases c5 : a1 > 60
      · rw [if_pos c5] at H
        have c5b0 : decide (60 < a1) = true := decide_eq_true c5
        clear c5
        have H' := Aside0.mk H
        clear H
        go_wp2
        go_meet
        case rel => exact ⟨_, (true), (by first | rfl | (simp; done) | (simp [*]; done)), H', ⟨by first | omega | exact Nat.le_refl _⟩, by repeat (first | exact Drawn0.refl _ | apply Drawn0.step)⟩
      · rw [if_neg c5] at H
        have c5b0 : decide (60 < a1) = false := decide_eq_false c5
        clear c5
        by_cases c6 : 0 < (l0.length : Int)
        · rw [if_pos c6] at H
          have c6b0 : decide (0 < (l0.length : Int)) = true := decide_eq_true c6
          have c6b1 : decide (0 < l0.length) = true := decide_eq_true (by omega)
          clear c6
          have H' := Aside0.mk H
          clear H
          have p111 : 0 ≤ (0 : Int) := (by omega)
          have q111 : 0 < (l0.length : Int) := of_decide_eq_true (by first | (with_reducible assumption) | assumption)
          obtain ⟨ad111, e111, hx111_0, hx111_1, hx111_2⟩ := at_T45 HR0.out 0 p111 q111
          cases e111
          have qi111 : (0 < l0.length) = True := eq_true (by omega)
          (try rw [show ((0 : Int)).toNat = 0 from rfl] at hx111_0)
          (try rw [show 0 * 3 = 0 from rfl] at hx111_0)
          (try rw [Addr.add_zero'] at hx111_0)
          (try rw [show ((0 : Int)).toNat = 0 from rfl] at hx111_1)
          (try rw [show 0 * 3 = 0 from rfl] at hx111_1)
          (try rw [Addr.add_zero'] at hx111_1)
          (try rw [show ((0 : Int)).toNat = 0 from rfl] at hx111_2)
          (try rw [show 0 * 3 = 0 from rfl] at hx111_2)
          (try rw [Addr.add_zero'] at hx111_2)
          replace p111 := eq_true p111
          replace q111 := eq_true q111
          go_wp2
          go_meet
          case rel => exact ⟨_, ((((rd_T45 l0 0).f2) != (wrap64 ((l0.length : Int) - 1)))), (by first | rfl | (simp; done) | (simp [*]; done)), H', ⟨by first | omega | exact Nat.le_refl _⟩, by repeat (first | exact Drawn0.refl _ | apply Drawn0.step)⟩
        · rw [if_neg c6] at H
          exact absurd H (by simp)
  case rest =>
    clear HC3
    try clear p1
    try clear q1
    try clear hx1
    try clear qi1
    try clear c2
    try clear p2
    try clear c4
    try clear c4b0
    try clear c4b1
    try clear c4b2
    try clear c5
    try clear c5b0
    try clear c6
    try clear c6b0
    try clear c6b1
    try clear p6
    try clear hx111_0
    try clear hx111_1
    try clear hx111_2
    try clear p111
    try clear q111
    obtain ⟨kq, x23_2, rfl, HA, HJ2, ⟨mc2, rfl⟩⟩ := hcut
    cases kq with
    | zero => exact absurd HA.out (by simp [spec_l7Ok.j0])
    | succ kj2 =>
      have H := HA.out
      clear HA
      simp only [spec_l7Ok.j0] at H
      by_cases c7 : x23_2 = true
      · subst c7
        have H1 : (some false) = some r := by rw [if_pos rfl] at H; exact H
        clear H
        have H := H1
        clear H1
        obtain rfl := Option.some.inj H
        go_wp2
        go_ret
        exact ⟨by first | rfl | (simp; done) | (simp [*]; done), by repeat (first | exact Drawn0.refl _ | apply Drawn0.step)⟩
      · replace c7 := Bool.eq_false_iff.mpr c7
        subst c7
        have H1 : (spec_l7Ok.l0 kj2 l0 a1 0 1) = some r := by rw [if_neg (show ¬ (false = true) by decide)] at H; exact H
        clear H
        have H := H1
        clear H1
        have H' := Aside0.mk H
        clear H
        go_wp2
        go_loopg [5, 6] kj2 (fun kq v5 v6 w' => ∃ (x5_2 : Int) (x6_2 : Int), v5 = .int .i64 x5_2 ∧ v6 = .int .i64 x6_2 ∧ Aside0 (spec_l7Ok.l0 kq l0 a1 x5_2 x6_2 = some r) ∧ Aside0 (kq ≤ kj2) ∧ Drawn0 w w')
        case atStart => exact ⟨(0), (1), (by first | rfl | (simp; done) | (simp [*]; done)), (by first | rfl | (simp; done) | (simp [*]; done)), H', ⟨Nat.le_refl _⟩, by repeat (first | exact Drawn0.refl _ | apply Drawn0.step)⟩
        case round =>
          clear H'
          try clear p1
          try clear q1
          try clear hx1
          try clear qi1
          try clear c2
          try clear p2
          try clear c4
          try clear c4b0
          try clear c4b1
          try clear c4b2
          try clear c5
          try clear c5b0
          try clear c6
          try clear c6b0
          try clear c6b1
          try clear p6
          try clear c7
          try clear hx111_0
          try clear hx111_1
          try clear hx111_2
          try clear p1
          try clear p111
          try clear p2
          try clear p6
          try clear q1
          try clear q111
          obtain ⟨x5_2, x6_2, rfl, rfl, HA, HK2, ⟨m2, rfl⟩⟩ := hrel
          cases gk with
          | zero => exact absurd HA.out (by simp [spec_l7Ok.l0])
          | succ k2 =>
            have H := HA.out
            clear HA
            simp only [spec_l7Ok.l0] at H
            by_cases c8 : x6_2 < (l0.length : Int)
            · rw [if_pos c8] at H
              have c8b0 : decide (x6_2 < (l0.length : Int)) = true := decide_eq_true c8
              clear c8
              by_cases c9 : 0 ≤ x6_2
              · rw [if_pos c9] at H
                have c9b0 : decide (0 ≤ x6_2) = true := decide_eq_true c9
                clear c9
                by_cases c10 : ((rd_T45 l0 x6_2).f2) < 0
                · rw [if_pos c10] at H
                  have c10b0 : decide (((rd_T45 l0 x6_2).f2) < 0) = true := decide_eq_true c10
                  clear c10
                  obtain rfl := Option.some.inj H
                  have p112 : 0 ≤ (x6_2 : Int) := of_decide_eq_true (by first | (with_reducible assumption) | assumption)
                  have q112 : x6_2 < (l0.length : Int) := of_decide_eq_true (by first | (with_reducible assumption) | assumption)
                  obtain ⟨ad112, e112, hx112_0, hx112_1, hx112_2⟩ := at_T45 HR0.out x6_2 p112 q112
                  cases e112
                  replace p112 := eq_true p112
                  replace q112 := eq_true q112
                  go_wp2
                  go_ret
                  exact ⟨by first | rfl | (simp; done) | (simp [*]; done), by repeat (first | exact Drawn0.refl _ | apply Drawn0.step)⟩
                · rw [if_neg c10] at H
                  have c10b0 : decide (((rd_T45 l0 x6_2).f2) < 0) = false := decide_eq_false c10
                  clear c10
                  by_cases c11 : ((rd_T45 l0 x6_2).f2) > (wrap64 ((wrap64 ((l0.length : Int) - x6_2)) - 1))
                  · rw [if_pos c11] at H
                    have c11b0 : decide ((wrap64 ((wrap64 ((l0.length : Int) - x6_2)) - 1)) < ((rd_T45 l0 x6_2).f2)) = true := decide_eq_true c11
                    clear c11
                    obtain rfl := Option.some.inj H
                    have p112 : 0 ≤ (x6_2 : Int) := of_decide_eq_true (by first | (with_reducible assumption) | assumption)
                    have q112 : x6_2 < (l0.length : Int) := of_decide_eq_true (by first | (with_reducible assumption) | assumption)
                    obtain ⟨ad112, e112, hx112_0, hx112_1, hx112_2⟩ := at_T45 HR0.out x6_2 p112 q112
                    cases e112
                    replace p112 := eq_true p112
                    replace q112 := eq_true q112
                    have p113 : 0 ≤ (x6_2 : Int) := of_decide_eq_true (by first | (with_reducible assumption) | assumption)
                    have q113 : x6_2 < (l0.length : Int) := of_decide_eq_true (by first | (with_reducible assumption) | assumption)
                    obtain ⟨ad113, e113, hx113_0, hx113_1, hx113_2⟩ := at_T45 HR0.out x6_2 p113 q113
                    obtain rfl : ad112 = ad113 := (by injection e113)
                    replace p113 := eq_true p113
                    replace q113 := eq_true q113
                    go_wp2
                    go_ret
                    exact ⟨by first | rfl | (simp; done) | (simp [*]; done), by repeat (first | exact Drawn0.refl _ | apply Drawn0.step)⟩
                  · rw [if_neg c11] at H
                    have c11b0 : decide ((wrap64 ((wrap64 ((l0.length : Int) - x6_2)) - 1)) < ((rd_T45 l0 x6_2).f2)) = false := decide_eq_false c11
                    clear c11
                    have c12b0 := eq_true (of_decide_eq_true (by first | (with_reducible assumption) | assumption) : 0 ≤ x6_2)
                    by_cases c13 : x6_2 ≤ (hi44 l0 x6_2)
                    · rw [if_pos c13] at H
                      have c13b0 := eq_true c13
                      have c13b1 : decide (x6_2 ≤ (hi44 l0 x6_2)) = true := decide_eq_true c13
                      clear c13
                      by_cases c14 : (hi44 l0 x6_2) ≤ (l0.length : Int)
                      · rw [if_pos c14] at H
                        have c14b0 := eq_true c14
                        have c14b1 : decide ((hi44 l0 x6_2) ≤ (l0.length : Int)) = true := decide_eq_true c14
                        clear c14
                        obtain ⟨y114, hy114⟩ : ∃ y_ : List (S45), y_ = ((l0.take ((hi44 l0 x6_2) : Int).toNat).drop (x6_2 : Int).toNat) := ⟨_, rfl⟩
                        replace H : ((spec_l7Ok.f k2 y114 (wrap64 (a1 + 1))).bind fun t118 => (if t118 = true then (spec_l7Ok.l0 k2 l0 a1 (wrap64 (x5_2 + 1)) (wrap64 ((wrap64 (x6_2 + 1)) + ((rd_T45 l0 x6_2).f2)))) else (some false))) = some r := by first | (rw [hy114]; with_reducible exact H) | (have H2_ := (Option.bind_some _ _).symm.trans H; rw [hy114]; with_reducible exact H2_) | (have H2_ := (Option.bind_some _ _).symm.trans H; with_reducible exact H2_) | with_reducible exact H | (rw [hy114]; exact H) | exact H
                        have Ny114 := Aside0.mk hy114
                        clear hy114
                        replace H := Option.bind_eq_some_iff.mp H
                        obtain ⟨t118, A150, H⟩ := H
                        replace H : (if t118 = true then (spec_l7Ok.l0 k2 l0 a1 (wrap64 (x5_2 + 1)) (wrap64 ((wrap64 (x6_2 + 1)) + ((rd_T45 l0 x6_2).f2)))) else (some false)) = some r := H
                        have A15 := Aside0.mk A150
                        clear A150
                        by_cases c16 : t118 = true
                        · subst c16
                          have H1 : (spec_l7Ok.l0 k2 l0 a1 (wrap64 (x5_2 + 1)) (wrap64 ((wrap64 (x6_2 + 1)) + ((rd_T45 l0 x6_2).f2)))) = some r := by rw [if_pos rfl] at H; exact H
                          clear H
                          have H := H1
                          clear H1
                          have H' := Aside0.mk H
                          clear H
                          have p112 : 0 ≤ (x6_2 : Int) := of_decide_eq_true (by first | (with_reducible assumption) | assumption)
                          have q112 : x6_2 < (l0.length : Int) := of_decide_eq_true (by first | (with_reducible assumption) | assumption)
                          obtain ⟨ad112, e112, hx112_0, hx112_1, hx112_2⟩ := at_T45 HR0.out x6_2 p112 q112
                          cases e112
                          replace p112 := eq_true p112
                          replace q112 := eq_true q112
                          have p113 : 0 ≤ (x6_2 : Int) := of_decide_eq_true (by first | (with_reducible assumption) | assumption)
                          have q113 : x6_2 < (l0.length : Int) := of_decide_eq_true (by first | (with_reducible assumption) | assumption)
                          obtain ⟨ad113, e113, hx113_0, hx113_1, hx113_2⟩ := at_T45 HR0.out x6_2 p113 q113
                          obtain rfl : ad112 = ad113 := (by injection e113)
                          replace p113 := eq_true p113
                          replace q113 := eq_true q113
                          have q17 : ((hi44 l0 x6_2) : Int) ≤ ((l0.length : Int) : Int) := of_decide_eq_true (by first | (with_reducible assumption) | assumption)
                          obtain ⟨i017, hi017, _, hsz17, _⟩ := info_parts info45
                          have hroom17 : l0.length ≤ c0 := HC0.out
                          have hC17 : Kd.C k45 _ (some ad112) l0.length l0 := HR0.out
                          have ql17 : (x6_2 : Int) ≤ ((hi44 l0 x6_2) : Int) := of_decide_eq_true (by first | (with_reducible assumption) | assumption)
                          have q017 : (0 : Int) ≤ (x6_2 : Int) := of_decide_eq_true (by first | (with_reducible assumption) | assumption)
                          have hr17 := Kd.C_mid (lo := (x6_2 : Int).toNat) (hi := ((hi44 l0 x6_2) : Int).toNat) (c := c0) hC17 (by omega) (by omega) hroom17
                          obtain ⟨A17, hA17⟩ : ∃ A1, A1 = (if c0 = (x6_2 : Int).toNat then (some ad112) else ((some ad112) : Option Addr).map (·.add ((x6_2 : Int).toNat * 3))) := ⟨_, rfl⟩
                          obtain ⟨c17, hc17⟩ : ∃ c1, c1 = c0 - (x6_2 : Int).toNat := ⟨_, rfl⟩
                          have hy17 : y114.length = ((hi44 l0 x6_2) : Int).toNat - (x6_2 : Int).toNat := (by rw [Ny114.out, List.length_drop, List.length_take] <;> omega)
                          rw [show ((l0).take ((hi44 l0 x6_2) : Int).toNat).drop (x6_2 : Int).toNat = y114 from Ny114.out.symm] at hr17
                          replace hr17 : Kd.C k45 _ A17 y114.length y114 := (by rw [hA17]; exact hr17)
                          have KQ17 := Aside0.mk q17; have KL17 := Aside0.mk ql17; have K017 := Aside0.mk q017; have KC17 := Aside0.mk hc17; clear ql17 q017
                          have HR117 := Aside0.mk hr17
                          have HC117 := Aside0.mk (show y114.length ≤ c17 from by rw [hy17, hc17]; exact Nat.sub_le_sub_right (Nat.le_trans (by omega) hroom17) _)
                          clear hr17 hC17 hroom17 hi017 hsz17 hc17
                          have KY17 := Aside0.mk hy17
                          have KA17 := Aside0.mk hA17
                          clear hy17 hA17
                          replace q17 := eq_true q17
                          go_wp2_with (first | ((go_at_call 44); (with_reducible refine (spec_l7Part.calls _ _ l0 x6_2 _ A17 c17 y114 ?zr ?zc K017.out ?zlt KL17.out KQ17.out KA17.out KY17.out KC17.out).mono ?_); (case zr => repeat (first | exact HR0.out | (with_reducible refine Kd.C_alloc ?_ _) | (with_reducible refine Kd.C_drewN ?_ _) | (with_reducible refine Kd.C_drew ?_))); (case zc => exact HC0.out); (case zlt => first | exact HLT17.out | exact of_eq_true (by first | (with_reducible assumption) | assumption) | exact of_decide_eq_true (by first | (with_reducible assumption) | assumption)); rintro e w' ⟨rfl, ⟨nd_, rfl⟩⟩) | (go_at_call 27; (with_reducible refine (ih k2 (by have := HJ2.out; have := HK2.out; omega) _ _ y114 (wrap64 (a1 + 1)) true _ ?side1 ?side2 A15.out).mono ?_); (case side1 => repeat (first | exact HR117.out | (with_reducible refine Kd.C_alloc ?_ _) | (with_reducible refine Kd.C_drewN ?_ _) | (with_reducible refine Kd.C_drew ?_))); (case side2 => exact HC117.out); rintro e w' ⟨rfl, ⟨nd, rfl⟩⟩; have p119 : 0 ≤ (x6_2 : Int) := of_decide_eq_true (by first | (with_reducible assumption) | assumption); have q119 : x6_2 < (l0.length : Int) := of_decide_eq_true (by first | (with_reducible assumption) | assumption); obtain ⟨ad119, e119, hx119_0, hx119_1, hx119_2⟩ := at_T45 HR0.out x6_2 p119 q119; obtain rfl : ad112 = ad119 := (by injection e119); replace p119 := eq_true p119; replace q119 := eq_true q119))
                          go_roundg k2
                          case measure => have := HJ2.out; have := HK2.out; omega
                          case rel => exact ⟨(wrap64 (x5_2 + 1)), (wrap64 ((wrap64 (x6_2 + 1)) + ((rd_T45 l0 x6_2).f2))), (by first | rfl | (simp; done) | (simp [*]; done)), (by first | rfl | (simp; done) | (simp [*]; done)), H', ⟨by have := HJ2.out; have := HK2.out; omega⟩, by repeat (first | exact Drawn0.refl _ | apply Drawn0.step)⟩
                        · replace c16 := Bool.eq_false_iff.mpr c16
                          subst c16
                          have H1 : (some false) = some r := by rw [if_neg (show ¬ (false = true) by decide)] at H; exact H
                          clear H
                          have H := H1
                          clear H1
                          obtain rfl := Option.some.inj H
                          have p112 : 0 ≤ (x6_2 : Int) := of_decide_eq_true (by first | (with_reducible assumption) | assumption)
                          have q112 : x6_2 < (l0.length : Int) := of_decide_eq_true (by first | (with_reducible assumption) | assumption)
                          obtain ⟨ad112, e112, hx112_0, hx112_1, hx112_2⟩ := at_T45 HR0.out x6_2 p112 q112
                          cases e112
                          replace p112 := eq_true p112
                          replace q112 := eq_true q112
                          have p113 : 0 ≤ (x6_2 : Int) := of_decide_eq_true (by first | (with_reducible assumption) | assumption)
                          have q113 : x6_2 < (l0.length : Int) := of_decide_eq_true (by first | (with_reducible assumption) | assumption)
                          obtain ⟨ad113, e113, hx113_0, hx113_1, hx113_2⟩ := at_T45 HR0.out x6_2 p113 q113
                          obtain rfl : ad112 = ad113 := (by injection e113)
                          replace p113 := eq_true p113
                          replace q113 := eq_true q113
                          have q18 : ((hi44 l0 x6_2) : Int) ≤ ((l0.length : Int) : Int) := of_decide_eq_true (by first | (with_reducible assumption) | assumption)
                          obtain ⟨i018, hi018, _, hsz18, _⟩ := info_parts info45
                          have hroom18 : l0.length ≤ c0 := HC0.out
                          have hC18 : Kd.C k45 _ (some ad112) l0.length l0 := HR0.out
                          have ql18 : (x6_2 : Int) ≤ ((hi44 l0 x6_2) : Int) := of_decide_eq_true (by first | (with_reducible assumption) | assumption)
                          have q018 : (0 : Int) ≤ (x6_2 : Int) := of_decide_eq_true (by first | (with_reducible assumption) | assumption)
                          have hr18 := Kd.C_mid (lo := (x6_2 : Int).toNat) (hi := ((hi44 l0 x6_2) : Int).toNat) (c := c0) hC18 (by omega) (by omega) hroom18
                          obtain ⟨A18, hA18⟩ : ∃ A1, A1 = (if c0 = (x6_2 : Int).toNat then (some ad112) else ((some ad112) : Option Addr).map (·.add ((x6_2 : Int).toNat * 3))) := ⟨_, rfl⟩
                          obtain ⟨c18, hc18⟩ : ∃ c1, c1 = c0 - (x6_2 : Int).toNat := ⟨_, rfl⟩
                          have hy18 : y114.length = ((hi44 l0 x6_2) : Int).toNat - (x6_2 : Int).toNat := (by rw [Ny114.out, List.length_drop, List.length_take] <;> omega)
                          rw [show ((l0).take ((hi44 l0 x6_2) : Int).toNat).drop (x6_2 : Int).toNat = y114 from Ny114.out.symm] at hr18
                          replace hr18 : Kd.C k45 _ A18 y114.length y114 := (by rw [hA18]; exact hr18)
                          have KQ18 := Aside0.mk q18; have KL18 := Aside0.mk ql18; have K018 := Aside0.mk q018; have KC18 := Aside0.mk hc18; clear ql18 q018
                          have HR117 := Aside0.mk hr18
                          have HC117 := Aside0.mk (show y114.length ≤ c18 from by rw [hy18, hc18]; exact Nat.sub_le_sub_right (Nat.le_trans (by omega) hroom18) _)
                          clear hr18 hC18 hroom18 hi018 hsz18 hc18
                          have KY18 := Aside0.mk hy18
                          have KA18 := Aside0.mk hA18
                          clear hy18 hA18
                          replace q18 := eq_true q18
                          go_wp2_with (first | ((go_at_call 44); (with_reducible refine (spec_l7Part.calls _ _ l0 x6_2 _ A18 c18 y114 ?zr ?zc K018.out ?zlt KL18.out KQ18.out KA18.out KY18.out KC18.out).mono ?_); (case zr => repeat (first | exact HR0.out | (with_reducible refine Kd.C_alloc ?_ _) | (with_reducible refine Kd.C_drewN ?_ _) | (with_reducible refine Kd.C_drew ?_))); (case zc => exact HC0.out); (case zlt => first | exact HLT18.out | exact of_eq_true (by first | (with_reducible assumption) | assumption) | exact of_decide_eq_true (by first | (with_reducible assumption) | assumption)); rintro e w' ⟨rfl, ⟨nd_, rfl⟩⟩) | (go_at_call 27; (with_reducible refine (ih k2 (by have := HJ2.out; have := HK2.out; omega) _ _ y114 (wrap64 (a1 + 1)) false _ ?side1 ?side2 A15.out).mono ?_); (case side1 => repeat (first | exact HR117.out | (with_reducible refine Kd.C_alloc ?_ _) | (with_reducible refine Kd.C_drewN ?_ _) | (with_reducible refine Kd.C_drew ?_))); (case side2 => exact HC117.out); rintro e w' ⟨rfl, ⟨nd, rfl⟩⟩))
                          go_ret
                          exact ⟨by first | rfl | (simp; done) | (simp [*]; done), by repeat (first | exact Drawn0.refl _ | apply Drawn0.step)⟩
                      · rw [if_neg c14] at H
                        exact absurd H (by simp)
                    · rw [if_neg c13] at H
                      exact absurd H (by simp)
              · rw [if_neg c9] at H
                exact absurd H (by simp)
            · rw [if_neg c8] at H
              have c8b0 : decide (x6_2 < (l0.length : Int)) = false := decide_eq_false c8
              clear c8
              by_cases c19 : 0 < (l0.length : Int)
              · rw [if_pos c19] at H
                have c19b0 : decide (0 < (l0.length : Int)) = true := decide_eq_true c19
                have c19b1 : decide (0 < l0.length) = true := decide_eq_true (by omega)
                clear c19
                by_cases c20 : ((rd_T45 l0 0).f0) = 1
                · rw [if_pos c20] at H
                  have c20b0 : (((rd_T45 l0 0).f0) == 1) = true := beq_iff_eq.mpr c20
                  have c20b1 : (((rd_T45 l0 0).f0) != 1) = false := bne_eq_false_iff_eq.mpr c20
                  clear c20
                  by_cases c21 : x5_2 = 0
                  · rw [if_pos c21] at H
                    have c21b0 : (x5_2 == 0) = true := beq_iff_eq.mpr c21
                    have c21b1 : (x5_2 != 0) = false := bne_eq_false_iff_eq.mpr c21
                    clear c21
                    replace H := Option.bind_eq_some_iff.mp H
                    obtain ⟨t122, A220, H⟩ := H
                    replace H : (if t122 = true then (if ((rd_T45 l0 0).f1).toList = ([116, 114, 117, 101] : List UInt8) then (some false) else (some (((rd_T45 l0 0).f1).toList != ([102, 97, 108, 115, 101] : List UInt8)))) else (some false)) = some r := H
                    have A22 := Aside0.mk A220
                    clear A220
                    by_cases c23 : t122 = true
                    · subst c23
                      have H1 : (if ((rd_T45 l0 0).f1).toList = ([116, 114, 117, 101] : List UInt8) then (some false) else (some (((rd_T45 l0 0).f1).toList != ([102, 97, 108, 115, 101] : List UInt8)))) = some r := by rw [if_pos rfl] at H; exact H
                      clear H
                      have H := H1
                      clear H1
                      by_cases c24 : ((rd_T45 l0 0).f1).toList = ([116, 114, 117, 101] : List UInt8)
                      · rw [if_pos c24] at H
                        have c24b0 : (((rd_T45 l0 0).f1).toList == ([116, 114, 117, 101] : List UInt8)) = true := beq_iff_eq.mpr c24
                        have c24b1 : (((rd_T45 l0 0).f1).toList != ([116, 114, 117, 101] : List UInt8)) = false := bne_eq_false_iff_eq.mpr c24
                        clear c24
                        obtain rfl := Option.some.inj H
                        have p120 : 0 ≤ (0 : Int) := (by omega)
                        have q120 : 0 < (l0.length : Int) := of_decide_eq_true (by first | (with_reducible assumption) | assumption)
                        obtain ⟨ad120, e120, hx120_0, hx120_1, hx120_2⟩ := at_T45 HR0.out 0 p120 q120
                        cases e120
                        have qi120 : (0 < l0.length) = True := eq_true (by omega)
                        (try rw [show ((0 : Int)).toNat = 0 from rfl] at hx120_0)
                        (try rw [show 0 * 3 = 0 from rfl] at hx120_0)
                        (try rw [Addr.add_zero'] at hx120_0)
                        (try rw [show ((0 : Int)).toNat = 0 from rfl] at hx120_1)
                        (try rw [show 0 * 3 = 0 from rfl] at hx120_1)
                        (try rw [Addr.add_zero'] at hx120_1)
                        (try rw [show ((0 : Int)).toNat = 0 from rfl] at hx120_2)
                        (try rw [show 0 * 3 = 0 from rfl] at hx120_2)
                        (try rw [Addr.add_zero'] at hx120_2)
                        replace p120 := eq_true p120
                        replace q120 := eq_true q120
                        have p121 : 0 ≤ (0 : Int) := (by omega)
                        have q121 : 0 < (l0.length : Int) := of_decide_eq_true (by first | (with_reducible assumption) | assumption)
                        obtain ⟨ad121, e121, hx121_0, hx121_1, hx121_2⟩ := at_T45 HR0.out 0 p121 q121
                        obtain rfl : ad120 = ad121 := (by injection e121)
                        have qi121 : (0 < l0.length) = True := eq_true (by omega)
                        (try rw [show ((0 : Int)).toNat = 0 from rfl] at hx121_0)
                        (try rw [show 0 * 3 = 0 from rfl] at hx121_0)
                        (try rw [Addr.add_zero'] at hx121_0)
                        (try rw [show ((0 : Int)).toNat = 0 from rfl] at hx121_1)
                        (try rw [show 0 * 3 = 0 from rfl] at hx121_1)
                        (try rw [Addr.add_zero'] at hx121_1)
                        (try rw [show ((0 : Int)).toNat = 0 from rfl] at hx121_2)
                        (try rw [show 0 * 3 = 0 from rfl] at hx121_2)
                        (try rw [Addr.add_zero'] at hx121_2)
                        replace p121 := eq_true p121
                        replace q121 := eq_true q121
                        go_wp2_with (first | (go_at_call 45; (with_reducible refine (spec_NameOk.calls k2 ((rd_T45 l0 0).f1) true _ A22.out).mono ?_); rintro e w' ⟨rfl, ⟨nd, rfl⟩⟩; have p123 : 0 ≤ (0 : Int) := (by omega); have q123 : 0 < (l0.length : Int) := of_decide_eq_true (by first | (with_reducible assumption) | assumption); obtain ⟨ad123, e123, hx123_0, hx123_1, hx123_2⟩ := at_T45 HR0.out 0 p123 q123; obtain rfl : ad120 = ad123 := (by injection e123); have qi123 : (0 < l0.length) = True := eq_true (by omega); (try rw [show ((0 : Int)).toNat = 0 from rfl] at hx123_0); (try rw [show 0 * 3 = 0 from rfl] at hx123_0); (try rw [Addr.add_zero'] at hx123_0); (try rw [show ((0 : Int)).toNat = 0 from rfl] at hx123_1); (try rw [show 0 * 3 = 0 from rfl] at hx123_1); (try rw [Addr.add_zero'] at hx123_1); (try rw [show ((0 : Int)).toNat = 0 from rfl] at hx123_2); (try rw [show 0 * 3 = 0 from rfl] at hx123_2); (try rw [Addr.add_zero'] at hx123_2); replace p123 := eq_true p123; replace q123 := eq_true q123))
                        go_ret
                        exact ⟨by first | rfl | (simp; done) | (simp [*]; done), by repeat (first | exact Drawn0.refl _ | apply Drawn0.step)⟩
                      · rw [if_neg c24] at H
                        have c24b0 : (((rd_T45 l0 0).f1).toList == ([116, 114, 117, 101] : List UInt8)) = false := beq_eq_false_iff_ne.mpr c24
                        have c24b1 : (((rd_T45 l0 0).f1).toList != ([116, 114, 117, 101] : List UInt8)) = true := bne_iff_ne.mpr c24
                        obtain rfl := Option.some.inj H
                        have p120 : 0 ≤ (0 : Int) := (by omega)
                        have q120 : 0 < (l0.length : Int) := of_decide_eq_true (by first | (with_reducible assumption) | assumption)
                        obtain ⟨ad120, e120, hx120_0, hx120_1, hx120_2⟩ := at_T45 HR0.out 0 p120 q120
                        cases e120
                        have qi120 : (0 < l0.length) = True := eq_true (by omega)
                        (try rw [show ((0 : Int)).toNat = 0 from rfl] at hx120_0)
                        (try rw [show 0 * 3 = 0 from rfl] at hx120_0)
                        (try rw [Addr.add_zero'] at hx120_0)
                        (try rw [show ((0 : Int)).toNat = 0 from rfl] at hx120_1)
                        (try rw [show 0 * 3 = 0 from rfl] at hx120_1)
                        (try rw [Addr.add_zero'] at hx120_1)
                        (try rw [show ((0 : Int)).toNat = 0 from rfl] at hx120_2)
                        (try rw [show 0 * 3 = 0 from rfl] at hx120_2)
                        (try rw [Addr.add_zero'] at hx120_2)
                        replace p120 := eq_true p120
                        replace q120 := eq_true q120
                        have p121 : 0 ≤ (0 : Int) := (by omega)
                        have q121 : 0 < (l0.length : Int) := of_decide_eq_true (by first | (with_reducible assumption) | assumption)
                        obtain ⟨ad121, e121, hx121_0, hx121_1, hx121_2⟩ := at_T45 HR0.out 0 p121 q121
                        obtain rfl : ad120 = ad121 := (by injection e121)
                        have qi121 : (0 < l0.length) = True := eq_true (by omega)
                        (try rw [show ((0 : Int)).toNat = 0 from rfl] at hx121_0)
                        (try rw [show 0 * 3 = 0 from rfl] at hx121_0)
                        (try rw [Addr.add_zero'] at hx121_0)
                        (try rw [show ((0 : Int)).toNat = 0 from rfl] at hx121_1)
                        (try rw [show 0 * 3 = 0 from rfl] at hx121_1)
                        (try rw [Addr.add_zero'] at hx121_1)
                        (try rw [show ((0 : Int)).toNat = 0 from rfl] at hx121_2)
                        (try rw [show 0 * 3 = 0 from rfl] at hx121_2)
                        (try rw [Addr.add_zero'] at hx121_2)
                        replace p121 := eq_true p121
                        replace q121 := eq_true q121
                        go_wp2_with (first | (go_at_call 45; (with_reducible refine (spec_NameOk.calls k2 ((rd_T45 l0 0).f1) true _ A22.out).mono ?_); rintro e w' ⟨rfl, ⟨nd, rfl⟩⟩; have p123 : 0 ≤ (0 : Int) := (by omega); have q123 : 0 < (l0.length : Int) := of_decide_eq_true (by first | (with_reducible assumption) | assumption); obtain ⟨ad123, e123, hx123_0, hx123_1, hx123_2⟩ := at_T45 HR0.out 0 p123 q123; obtain rfl : ad120 = ad123 := (by injection e123); have qi123 : (0 < l0.length) = True := eq_true (by omega); (try rw [show ((0 : Int)).toNat = 0 from rfl] at hx123_0); (try rw [show 0 * 3 = 0 from rfl] at hx123_0); (try rw [Addr.add_zero'] at hx123_0); (try rw [show ((0 : Int)).toNat = 0 from rfl] at hx123_1); (try rw [show 0 * 3 = 0 from rfl] at hx123_1); (try rw [Addr.add_zero'] at hx123_1); (try rw [show ((0 : Int)).toNat = 0 from rfl] at hx123_2); (try rw [show 0 * 3 = 0 from rfl] at hx123_2); (try rw [Addr.add_zero'] at hx123_2); replace p123 := eq_true p123; replace q123 := eq_true q123; have p124 : 0 ≤ (0 : Int) := (by omega); have q124 : 0 < (l0.length : Int) := of_decide_eq_true (by first | (with_reducible assumption) | assumption); obtain ⟨ad124, e124, hx124_0, hx124_1, hx124_2⟩ := at_T45 HR0.out 0 p124 q124; obtain rfl : ad120 = ad124 := (by injection e124); have qi124 : (0 < l0.length) = True := eq_true (by omega); (try rw [show ((0 : Int)).toNat = 0 from rfl] at hx124_0); (try rw [show 0 * 3 = 0 from rfl] at hx124_0); (try rw [Addr.add_zero'] at hx124_0); (try rw [show ((0 : Int)).toNat = 0 from rfl] at hx124_1); (try rw [show 0 * 3 = 0 from rfl] at hx124_1); (try rw [Addr.add_zero'] at hx124_1); (try rw [show ((0 : Int)).toNat = 0 from rfl] at hx124_2); (try rw [show 0 * 3 = 0 from rfl] at hx124_2); (try rw [Addr.add_zero'] at hx124_2); replace p124 := eq_true p124; replace q124 := eq_true q124))
                        go_ret
                        exact ⟨by first | rfl | (simp; done) | (simp [*]; done), by repeat (first | exact Drawn0.refl _ | apply Drawn0.step)⟩
                    · replace c23 := Bool.eq_false_iff.mpr c23
                      subst c23
                      have H1 : (some false) = some r := by rw [if_neg (show ¬ (false = true) by decide)] at H; exact H
                      clear H
                      have H := H1
                      clear H1
                      obtain rfl := Option.some.inj H
                      have p120 : 0 ≤ (0 : Int) := (by omega)
                      have q120 : 0 < (l0.length : Int) := of_decide_eq_true (by first | (with_reducible assumption) | assumption)
                      obtain ⟨ad120, e120, hx120_0, hx120_1, hx120_2⟩ := at_T45 HR0.out 0 p120 q120
                      cases e120
                      have qi120 : (0 < l0.length) = True := eq_true (by omega)
                      (try rw [show ((0 : Int)).toNat = 0 from rfl] at hx120_0)
                      (try rw [show 0 * 3 = 0 from rfl] at hx120_0)
                      (try rw [Addr.add_zero'] at hx120_0)
                      (try rw [show ((0 : Int)).toNat = 0 from rfl] at hx120_1)
                      (try rw [show 0 * 3 = 0 from rfl] at hx120_1)
                      (try rw [Addr.add_zero'] at hx120_1)
                      (try rw [show ((0 : Int)).toNat = 0 from rfl] at hx120_2)
                      (try rw [show 0 * 3 = 0 from rfl] at hx120_2)
                      (try rw [Addr.add_zero'] at hx120_2)
                      replace p120 := eq_true p120
                      replace q120 := eq_true q120
                      have p121 : 0 ≤ (0 : Int) := (by omega)
                      have q121 : 0 < (l0.length : Int) := of_decide_eq_true (by first | (with_reducible assumption) | assumption)
                      obtain ⟨ad121, e121, hx121_0, hx121_1, hx121_2⟩ := at_T45 HR0.out 0 p121 q121
                      obtain rfl : ad120 = ad121 := (by injection e121)
                      have qi121 : (0 < l0.length) = True := eq_true (by omega)
                      (try rw [show ((0 : Int)).toNat = 0 from rfl] at hx121_0)
                      (try rw [show 0 * 3 = 0 from rfl] at hx121_0)
                      (try rw [Addr.add_zero'] at hx121_0)
                      (try rw [show ((0 : Int)).toNat = 0 from rfl] at hx121_1)
                      (try rw [show 0 * 3 = 0 from rfl] at hx121_1)
                      (try rw [Addr.add_zero'] at hx121_1)
                      (try rw [show ((0 : Int)).toNat = 0 from rfl] at hx121_2)
                      (try rw [show 0 * 3 = 0 from rfl] at hx121_2)
                      (try rw [Addr.add_zero'] at hx121_2)
                      replace p121 := eq_true p121
                      replace q121 := eq_true q121
                      go_wp2_with (first | (go_at_call 45; (with_reducible refine (spec_NameOk.calls k2 ((rd_T45 l0 0).f1) false _ A22.out).mono ?_); rintro e w' ⟨rfl, ⟨nd, rfl⟩⟩))
                      go_ret
                      exact ⟨by first | rfl | (simp; done) | (simp [*]; done), by repeat (first | exact Drawn0.refl _ | apply Drawn0.step)⟩
                  · rw [if_neg c21] at H
                    have c21b0 : (x5_2 == 0) = false := beq_eq_false_iff_ne.mpr c21
                    have c21b1 : (x5_2 != 0) = true := bne_iff_ne.mpr c21
                    obtain rfl := Option.some.inj H
                    have p120 : 0 ≤ (0 : Int) := (by omega)
                    have q120 : 0 < (l0.length : Int) := of_decide_eq_true (by first | (with_reducible assumption) | assumption)
                    obtain ⟨ad120, e120, hx120_0, hx120_1, hx120_2⟩ := at_T45 HR0.out 0 p120 q120
                    cases e120
                    have qi120 : (0 < l0.length) = True := eq_true (by omega)
                    (try rw [show ((0 : Int)).toNat = 0 from rfl] at hx120_0)
                    (try rw [show 0 * 3 = 0 from rfl] at hx120_0)
                    (try rw [Addr.add_zero'] at hx120_0)
                    (try rw [show ((0 : Int)).toNat = 0 from rfl] at hx120_1)
                    (try rw [show 0 * 3 = 0 from rfl] at hx120_1)
                    (try rw [Addr.add_zero'] at hx120_1)
                    (try rw [show ((0 : Int)).toNat = 0 from rfl] at hx120_2)
                    (try rw [show 0 * 3 = 0 from rfl] at hx120_2)
                    (try rw [Addr.add_zero'] at hx120_2)
                    replace p120 := eq_true p120
                    replace q120 := eq_true q120
                    go_wp2
                    go_ret
                    exact ⟨by first | rfl | (simp; done) | (simp [*]; done), by repeat (first | exact Drawn0.refl _ | apply Drawn0.step)⟩
                · rw [if_neg c20] at H
                  have c20b0 : (((rd_T45 l0 0).f0) == 1) = false := beq_eq_false_iff_ne.mpr c20
                  have c20b1 : (((rd_T45 l0 0).f0) != 1) = true := bne_iff_ne.mpr c20
                  have HC25 := Aside0.mk H
                  clear H
                  have p120 : 0 ≤ (0 : Int) := (by omega)
                  have q120 : 0 < (l0.length : Int) := of_decide_eq_true (by first | (with_reducible assumption) | assumption)
                  obtain ⟨ad120, e120, hx120_0, hx120_1, hx120_2⟩ := at_T45 HR0.out 0 p120 q120
                  cases e120
                  have qi120 : (0 < l0.length) = True := eq_true (by omega)
                  (try rw [show ((0 : Int)).toNat = 0 from rfl] at hx120_0)
                  (try rw [show 0 * 3 = 0 from rfl] at hx120_0)
                  (try rw [Addr.add_zero'] at hx120_0)
                  (try rw [show ((0 : Int)).toNat = 0 from rfl] at hx120_1)
                  (try rw [show 0 * 3 = 0 from rfl] at hx120_1)
                  (try rw [Addr.add_zero'] at hx120_1)
                  (try rw [show ((0 : Int)).toNat = 0 from rfl] at hx120_2)
                  (try rw [show 0 * 3 = 0 from rfl] at hx120_2)
                  (try rw [Addr.add_zero'] at hx120_2)
                  replace p120 := eq_true p120
                  replace q120 := eq_true q120
                  go_upto_if 95 with (fail)
                  go_cut [95] (fun v95 wc => ∃ (kq : Nat) (x95_24 : Bool), v95 = .bool x95_24 ∧ Aside0 (spec_l7Ok.j2 kq l0 x5_2 ((rd_T45 l0 0).f0) x95_24 = some r) ∧ Aside0 (kq ≤ k2) ∧ Drawn0 w wc)
                  case first =>
                    have H := HC25.out
                    clear HC25
                    by_cases c26 : ((rd_T45 l0 0).f0) = 2
                    · rw [if_pos c26] at H
                      have c26b0 : (((rd_T45 l0 0).f0) == 2) = true := beq_iff_eq.mpr c26
                      have c26b1 : (((rd_T45 l0 0).f0) != 2) = false := bne_eq_false_iff_eq.mpr c26
                      clear c26
                      (first | rw [c26b0] | (simp only [i64_w, i32_w]; rw [c26b0]) | skip)
                      have H' := Aside0.mk H
                      clear H
                      go_wp2
                      go_meet
                      case rel => exact ⟨_, ((((rd_T45 l0 0).f0) == 2)), (by first | rfl | (simp; done) | (simp [*]; done)), H', ⟨by have := HJ2.out; have := HK2.out; first | omega | exact Nat.le_refl _⟩, by repeat (first | exact Drawn0.refl _ | apply Drawn0.step)⟩
                    · rw [if_neg c26] at H
                      have c26b0 : (((rd_T45 l0 0).f0) == 2) = false := beq_eq_false_iff_ne.mpr c26
                      have c26b1 : (((rd_T45 l0 0).f0) != 2) = true := bne_iff_ne.mpr c26
                      (first | rw [c26b0] | (simp only [i64_w, i32_w]; rw [c26b0]) | skip)
                      have H' := Aside0.mk H
                      clear H
                      go_wp2
                      go_meet
                      case rel => exact ⟨_, ((((rd_T45 l0 0).f0) == 3)), (by first | rfl | (simp; done) | (simp [*]; done)), H', ⟨by have := HJ2.out; have := HK2.out; first | omega | exact Nat.le_refl _⟩, by repeat (first | exact Drawn0.refl _ | apply Drawn0.step)⟩
                  case rest =>
                    clear HC25
                    try clear c1
                    try clear p1
                    try clear q1
                    try clear hx1
                    try clear qi1
                    try clear c2
                    try clear p2
                    try clear c4
                    try clear c4b0
                    try clear c4b1
                    try clear c4b2
                    try clear c5
                    try clear c5b0
                    try clear c6
                    try clear c6b0
                    try clear c6b1
                    try clear p6
                    try clear c7
                    try clear c8
                    try clear c8b0
                    try clear c9
                    try clear c9b0
                    try clear c10
                    try clear c10b0
                    try clear c11
                    try clear c11b0
                    try clear p11
                    try clear q11
                    try clear hx11
                    try clear qi11
                    try clear c12
                    try clear c12b0
                    try clear p12
                    try clear q12
                    try clear hx12
                    try clear qi12
                    try clear c13
                    try clear c13b0
                    try clear c13b1
                    try clear c14
                    try clear c14b0
                    try clear c14b1
                    try clear c16
                    try clear c17
                    try clear q17
                    try clear c18
                    try clear q18
                    try clear c19
                    try clear c19b0
                    try clear c19b1
                    try clear c20
                    try clear c20b0
                    try clear c20b1
                    try clear c21
                    try clear c21b0
                    try clear c21b1
                    try clear c23
                    try clear c24
                    try clear c24b0
                    try clear c24b1
                    try clear c26
                    try clear c26b0
                    try clear c26b1
                    try clear hx111_0
                    try clear hx111_1
                    try clear hx111_2
                    try clear hx112_0
                    try clear hx112_1
                    try clear hx112_2
                    try clear hx113_0
                    try clear hx113_1
                    try clear hx113_2
                    try clear hx119_0
                    try clear hx119_1
                    try clear hx119_2
                    try clear hx120_0
                    try clear hx120_1
                    try clear hx120_2
                    try clear hx121_0
                    try clear hx121_1
                    try clear hx121_2
                    try clear hx123_0
                    try clear hx123_1
                    try clear hx123_2
                    try clear hx124_0
                    try clear hx124_1
                    try clear hx124_2
                    try clear p1
                    try clear p111
                    try clear p112
                    try clear p113
                    try clear p119
                    try clear p120
                    try clear p121
                    try clear p123
                    try clear p124
                    try clear p2
                    try clear p6
                    try clear q017
                    try clear q018
                    try clear q1
                    try clear q111
                    try clear q112
                    try clear q113
                    try clear q119
                    try clear q120
                    try clear q121
                    try clear q123
                    try clear q124
                    try clear q17
                    try clear q18
                    obtain ⟨kq, x95_24, rfl, HA, HJ24, ⟨mc24, rfl⟩⟩ := hcut
                    cases kq with
                    | zero => exact absurd HA.out (by simp [spec_l7Ok.j2])
                    | succ kj24 =>
                      have H := HA.out
                      clear HA
                      simp only [spec_l7Ok.j2] at H
                      by_cases c27 : x95_24 = true
                      · subst c27
                        have H1 : (if x5_2 = 0 then (if 0 < (l0.length : Int) then (some (((rd_T45 l0 0).f1).toList == ([] : List UInt8))) else (none)) else (some false)) = some r := by rw [if_pos rfl] at H; exact H
                        clear H
                        have H := H1
                        clear H1
                        by_cases c28 : x5_2 = 0
                        · rw [if_pos c28] at H
                          have c28b0 : (x5_2 == 0) = true := beq_iff_eq.mpr c28
                          have c28b1 : (x5_2 != 0) = false := bne_eq_false_iff_eq.mpr c28
                          clear c28
                          by_cases c29 : 0 < (l0.length : Int)
                          · rw [if_pos c29] at H
                            have c29b0 : decide (0 < (l0.length : Int)) = true := decide_eq_true c29
                            have c29b1 : decide (0 < l0.length) = true := decide_eq_true (by omega)
                            clear c29
                            obtain rfl := Option.some.inj H
                            have p125 : 0 ≤ (0 : Int) := (by omega)
                            have q125 : 0 < (l0.length : Int) := of_decide_eq_true (by first | (with_reducible assumption) | assumption)
                            obtain ⟨ad125, e125, hx125_0, hx125_1, hx125_2⟩ := at_T45 HR0.out 0 p125 q125
                            obtain rfl : ad120 = ad125 := (by injection e125)
                            have qi125 : (0 < l0.length) = True := eq_true (by omega)
                            (try rw [show ((0 : Int)).toNat = 0 from rfl] at hx125_0)
                            (try rw [show 0 * 3 = 0 from rfl] at hx125_0)
                            (try rw [Addr.add_zero'] at hx125_0)
                            (try rw [show ((0 : Int)).toNat = 0 from rfl] at hx125_1)
                            (try rw [show 0 * 3 = 0 from rfl] at hx125_1)
                            (try rw [Addr.add_zero'] at hx125_1)
                            (try rw [show ((0 : Int)).toNat = 0 from rfl] at hx125_2)
                            (try rw [show 0 * 3 = 0 from rfl] at hx125_2)
                            (try rw [Addr.add_zero'] at hx125_2)
                            replace p125 := eq_true p125
                            replace q125 := eq_true q125
                            go_wp2
                            go_ret
                            exact ⟨by first | rfl | (simp; done) | (simp [*]; done), by repeat (first | exact Drawn0.refl _ | apply Drawn0.step)⟩
                          · rw [if_neg c29] at H
                            exact absurd H (by simp)
                        · rw [if_neg c28] at H
                          have c28b0 : (x5_2 == 0) = false := beq_eq_false_iff_ne.mpr c28
                          have c28b1 : (x5_2 != 0) = true := bne_iff_ne.mpr c28
                          obtain rfl := Option.some.inj H
                          go_wp2
                          go_ret
                          exact ⟨by first | rfl | (simp; done) | (simp [*]; done), by repeat (first | exact Drawn0.refl _ | apply Drawn0.step)⟩
                      · replace c27 := Bool.eq_false_iff.mpr c27
                        subst c27
                        have H1 : (if ((rd_T45 l0 0).f0) = 4 then (if x5_2 = 1 then (if 0 < (l0.length : Int) then (some (((rd_T45 l0 0).f1).toList == ([] : List UInt8))) else (none)) else (some false)) else (if 0 < (l0.length : Int) then (if ((rd_T45 l0 0).f0) = 5 then (if x5_2 ≥ 2 then (some (((rd_T45 l0 0).f1).toList == ([] : List UInt8))) else (some false)) else (if ((rd_T45 l0 0).f0) = 6 then (if x5_2 ≥ 2 then (some (((rd_T45 l0 0).f1).toList == ([] : List UInt8))) else (some false)) else (some false))) else (none))) = some r := by rw [if_neg (show ¬ (false = true) by decide)] at H; exact H
                        clear H
                        have H := H1
                        clear H1
                        by_cases c30 : ((rd_T45 l0 0).f0) = 4
                        · rw [if_pos c30] at H
                          have c30b0 : (((rd_T45 l0 0).f0) == 4) = true := beq_iff_eq.mpr c30
                          have c30b1 : (((rd_T45 l0 0).f0) != 4) = false := bne_eq_false_iff_eq.mpr c30
                          clear c30
                          by_cases c31 : x5_2 = 1
                          · rw [if_pos c31] at H
                            have c31b0 : (x5_2 == 1) = true := beq_iff_eq.mpr c31
                            have c31b1 : (x5_2 != 1) = false := bne_eq_false_iff_eq.mpr c31
                            clear c31
                            by_cases c32 : 0 < (l0.length : Int)
                            · rw [if_pos c32] at H
                              have c32b0 : decide (0 < (l0.length : Int)) = true := decide_eq_true c32
                              have c32b1 : decide (0 < l0.length) = true := decide_eq_true (by omega)
                              clear c32
                              obtain rfl := Option.some.inj H
                              have p126 : 0 ≤ (0 : Int) := (by omega)
                              have q126 : 0 < (l0.length : Int) := of_decide_eq_true (by first | (with_reducible assumption) | assumption)
                              obtain ⟨ad126, e126, hx126_0, hx126_1, hx126_2⟩ := at_T45 HR0.out 0 p126 q126
                              obtain rfl : ad120 = ad126 := (by injection e126)
                              have qi126 : (0 < l0.length) = True := eq_true (by omega)
                              (try rw [show ((0 : Int)).toNat = 0 from rfl] at hx126_0)
                              (try rw [show 0 * 3 = 0 from rfl] at hx126_0)
                              (try rw [Addr.add_zero'] at hx126_0)
                              (try rw [show ((0 : Int)).toNat = 0 from rfl] at hx126_1)
                              (try rw [show 0 * 3 = 0 from rfl] at hx126_1)
                              (try rw [Addr.add_zero'] at hx126_1)
                              (try rw [show ((0 : Int)).toNat = 0 from rfl] at hx126_2)
                              (try rw [show 0 * 3 = 0 from rfl] at hx126_2)
                              (try rw [Addr.add_zero'] at hx126_2)
                              replace p126 := eq_true p126
                              replace q126 := eq_true q126
                              go_wp2
                              go_ret
                              exact ⟨by first | rfl | (simp; done) | (simp [*]; done), by repeat (first | exact Drawn0.refl _ | apply Drawn0.step)⟩
                            · rw [if_neg c32] at H
                              exact absurd H (by simp)
                          · rw [if_neg c31] at H
                            have c31b0 : (x5_2 == 1) = false := beq_eq_false_iff_ne.mpr c31
                            have c31b1 : (x5_2 != 1) = true := bne_iff_ne.mpr c31
                            obtain rfl := Option.some.inj H
                            go_wp2
                            go_ret
                            exact ⟨by first | rfl | (simp; done) | (simp [*]; done), by repeat (first | exact Drawn0.refl _ | apply Drawn0.step)⟩
                        · rw [if_neg c30] at H
                          have c30b0 : (((rd_T45 l0 0).f0) == 4) = false := beq_eq_false_iff_ne.mpr c30
                          have c30b1 : (((rd_T45 l0 0).f0) != 4) = true := bne_iff_ne.mpr c30
                          by_cases c33 : 0 < (l0.length : Int)
                          · rw [if_pos c33] at H
                            have c33b0 : decide (0 < (l0.length : Int)) = true := decide_eq_true c33
                            have c33b1 : decide (0 < l0.length) = true := decide_eq_true (by omega)
                            clear c33
                            by_cases c34 : ((rd_T45 l0 0).f0) = 5
                            · rw [if_pos c34] at H
                              have c34b0 : (((rd_T45 l0 0).f0) == 5) = true := beq_iff_eq.mpr c34
                              have c34b1 : (((rd_T45 l0 0).f0) != 5) = false := bne_eq_false_iff_eq.mpr c34
                              clear c34
                              by_cases c35 : x5_2 ≥ 2
                              · rw [if_pos c35] at H
                                have c35b0 : decide (2 ≤ x5_2) = true := decide_eq_true c35
                                clear c35
                                obtain rfl := Option.some.inj H
                                have p127 : 0 ≤ (0 : Int) := (by omega)
                                have q127 : 0 < (l0.length : Int) := of_decide_eq_true (by first | (with_reducible assumption) | assumption)
                                obtain ⟨ad127, e127, hx127_0, hx127_1, hx127_2⟩ := at_T45 HR0.out 0 p127 q127
                                obtain rfl : ad120 = ad127 := (by injection e127)
                                have qi127 : (0 < l0.length) = True := eq_true (by omega)
                                (try rw [show ((0 : Int)).toNat = 0 from rfl] at hx127_0)
                                (try rw [show 0 * 3 = 0 from rfl] at hx127_0)
                                (try rw [Addr.add_zero'] at hx127_0)
                                (try rw [show ((0 : Int)).toNat = 0 from rfl] at hx127_1)
                                (try rw [show 0 * 3 = 0 from rfl] at hx127_1)
                                (try rw [Addr.add_zero'] at hx127_1)
                                (try rw [show ((0 : Int)).toNat = 0 from rfl] at hx127_2)
                                (try rw [show 0 * 3 = 0 from rfl] at hx127_2)
                                (try rw [Addr.add_zero'] at hx127_2)
                                replace p127 := eq_true p127
                                replace q127 := eq_true q127
                                have p128 : 0 ≤ (0 : Int) := (by omega)
                                have q128 : 0 < (l0.length : Int) := of_decide_eq_true (by first | (with_reducible assumption) | assumption)
                                obtain ⟨ad128, e128, hx128_0, hx128_1, hx128_2⟩ := at_T45 HR0.out 0 p128 q128
                                obtain rfl : ad120 = ad128 := (by injection e128)
                                have qi128 : (0 < l0.length) = True := eq_true (by omega)
                                (try rw [show ((0 : Int)).toNat = 0 from rfl] at hx128_0)
                                (try rw [show 0 * 3 = 0 from rfl] at hx128_0)
                                (try rw [Addr.add_zero'] at hx128_0)
                                (try rw [show ((0 : Int)).toNat = 0 from rfl] at hx128_1)
                                (try rw [show 0 * 3 = 0 from rfl] at hx128_1)
                                (try rw [Addr.add_zero'] at hx128_1)
                                (try rw [show ((0 : Int)).toNat = 0 from rfl] at hx128_2)
                                (try rw [show 0 * 3 = 0 from rfl] at hx128_2)
                                (try rw [Addr.add_zero'] at hx128_2)
                                replace p128 := eq_true p128
                                replace q128 := eq_true q128
                                go_wp2
                                go_ret
                                exact ⟨by first | rfl | (simp; done) | (simp [*]; done), by repeat (first | exact Drawn0.refl _ | apply Drawn0.step)⟩
                              · rw [if_neg c35] at H
                                have c35b0 : decide (2 ≤ x5_2) = false := decide_eq_false c35
                                clear c35
                                obtain rfl := Option.some.inj H
                                have p127 : 0 ≤ (0 : Int) := (by omega)
                                have q127 : 0 < (l0.length : Int) := of_decide_eq_true (by first | (with_reducible assumption) | assumption)
                                obtain ⟨ad127, e127, hx127_0, hx127_1, hx127_2⟩ := at_T45 HR0.out 0 p127 q127
                                obtain rfl : ad120 = ad127 := (by injection e127)
                                have qi127 : (0 < l0.length) = True := eq_true (by omega)
                                (try rw [show ((0 : Int)).toNat = 0 from rfl] at hx127_0)
                                (try rw [show 0 * 3 = 0 from rfl] at hx127_0)
                                (try rw [Addr.add_zero'] at hx127_0)
                                (try rw [show ((0 : Int)).toNat = 0 from rfl] at hx127_1)
                                (try rw [show 0 * 3 = 0 from rfl] at hx127_1)
                                (try rw [Addr.add_zero'] at hx127_1)
                                (try rw [show ((0 : Int)).toNat = 0 from rfl] at hx127_2)
                                (try rw [show 0 * 3 = 0 from rfl] at hx127_2)
                                (try rw [Addr.add_zero'] at hx127_2)
                                replace p127 := eq_true p127
                                replace q127 := eq_true q127
                                go_wp2
                                go_ret
                                exact ⟨by first | rfl | (simp; done) | (simp [*]; done), by repeat (first | exact Drawn0.refl _ | apply Drawn0.step)⟩
                            · rw [if_neg c34] at H
                              have c34b0 : (((rd_T45 l0 0).f0) == 5) = false := beq_eq_false_iff_ne.mpr c34
                              have c34b1 : (((rd_T45 l0 0).f0) != 5) = true := bne_iff_ne.mpr c34
                              by_cases c36 : ((rd_T45 l0 0).f0) = 6
                              · rw [if_pos c36] at H
                                have c36b0 : (((rd_T45 l0 0).f0) == 6) = true := beq_iff_eq.mpr c36
                                have c36b1 : (((rd_T45 l0 0).f0) != 6) = false := bne_eq_false_iff_eq.mpr c36
                                clear c36
                                by_cases c37 : x5_2 ≥ 2
                                · rw [if_pos c37] at H
                                  have c37b0 : decide (2 ≤ x5_2) = true := decide_eq_true c37
                                  clear c37
                                  obtain rfl := Option.some.inj H
                                  have p127 : 0 ≤ (0 : Int) := (by omega)
                                  have q127 : 0 < (l0.length : Int) := of_decide_eq_true (by first | (with_reducible assumption) | assumption)
                                  obtain ⟨ad127, e127, hx127_0, hx127_1, hx127_2⟩ := at_T45 HR0.out 0 p127 q127
                                  obtain rfl : ad120 = ad127 := (by injection e127)
                                  have qi127 : (0 < l0.length) = True := eq_true (by omega)
                                  (try rw [show ((0 : Int)).toNat = 0 from rfl] at hx127_0)
                                  (try rw [show 0 * 3 = 0 from rfl] at hx127_0)
                                  (try rw [Addr.add_zero'] at hx127_0)
                                  (try rw [show ((0 : Int)).toNat = 0 from rfl] at hx127_1)
                                  (try rw [show 0 * 3 = 0 from rfl] at hx127_1)
                                  (try rw [Addr.add_zero'] at hx127_1)
                                  (try rw [show ((0 : Int)).toNat = 0 from rfl] at hx127_2)
                                  (try rw [show 0 * 3 = 0 from rfl] at hx127_2)
                                  (try rw [Addr.add_zero'] at hx127_2)
                                  replace p127 := eq_true p127
                                  replace q127 := eq_true q127
                                  have p129 : 0 ≤ (0 : Int) := (by omega)
                                  have q129 : 0 < (l0.length : Int) := of_decide_eq_true (by first | (with_reducible assumption) | assumption)
                                  obtain ⟨ad129, e129, hx129_0, hx129_1, hx129_2⟩ := at_T45 HR0.out 0 p129 q129
                                  obtain rfl : ad120 = ad129 := (by injection e129)
                                  have qi129 : (0 < l0.length) = True := eq_true (by omega)
                                  (try rw [show ((0 : Int)).toNat = 0 from rfl] at hx129_0)
                                  (try rw [show 0 * 3 = 0 from rfl] at hx129_0)
                                  (try rw [Addr.add_zero'] at hx129_0)
                                  (try rw [show ((0 : Int)).toNat = 0 from rfl] at hx129_1)
                                  (try rw [show 0 * 3 = 0 from rfl] at hx129_1)
                                  (try rw [Addr.add_zero'] at hx129_1)
                                  (try rw [show ((0 : Int)).toNat = 0 from rfl] at hx129_2)
                                  (try rw [show 0 * 3 = 0 from rfl] at hx129_2)
                                  (try rw [Addr.add_zero'] at hx129_2)
                                  replace p129 := eq_true p129
                                  replace q129 := eq_true q129
                                  have p130 : 0 ≤ (0 : Int) := (by omega)
                                  have q130 : 0 < (l0.length : Int) := of_decide_eq_true (by first | (with_reducible assumption) | assumption)
                                  obtain ⟨ad130, e130, hx130_0, hx130_1, hx130_2⟩ := at_T45 HR0.out 0 p130 q130
                                  obtain rfl : ad120 = ad130 := (by injection e130)
                                  have qi130 : (0 < l0.length) = True := eq_true (by omega)
                                  (try rw [show ((0 : Int)).toNat = 0 from rfl] at hx130_0)
                                  (try rw [show 0 * 3 = 0 from rfl] at hx130_0)
                                  (try rw [Addr.add_zero'] at hx130_0)
                                  (try rw [show ((0 : Int)).toNat = 0 from rfl] at hx130_1)
                                  (try rw [show 0 * 3 = 0 from rfl] at hx130_1)
                                  (try rw [Addr.add_zero'] at hx130_1)
                                  (try rw [show ((0 : Int)).toNat = 0 from rfl] at hx130_2)
                                  (try rw [show 0 * 3 = 0 from rfl] at hx130_2)
                                  (try rw [Addr.add_zero'] at hx130_2)
                                  replace p130 := eq_true p130
                                  replace q130 := eq_true q130
                                  go_wp2
                                  go_ret
                                  exact ⟨by first | rfl | (simp; done) | (simp [*]; done), by repeat (first | exact Drawn0.refl _ | apply Drawn0.step)⟩
                                · rw [if_neg c37] at H
                                  have c37b0 : decide (2 ≤ x5_2) = false := decide_eq_false c37
                                  clear c37
                                  obtain rfl := Option.some.inj H
                                  have p127 : 0 ≤ (0 : Int) := (by omega)
                                  have q127 : 0 < (l0.length : Int) := of_decide_eq_true (by first | (with_reducible assumption) | assumption)
                                  obtain ⟨ad127, e127, hx127_0, hx127_1, hx127_2⟩ := at_T45 HR0.out 0 p127 q127
                                  obtain rfl : ad120 = ad127 := (by injection e127)
                                  have qi127 : (0 < l0.length) = True := eq_true (by omega)
                                  (try rw [show ((0 : Int)).toNat = 0 from rfl] at hx127_0)
                                  (try rw [show 0 * 3 = 0 from rfl] at hx127_0)
                                  (try rw [Addr.add_zero'] at hx127_0)
                                  (try rw [show ((0 : Int)).toNat = 0 from rfl] at hx127_1)
                                  (try rw [show 0 * 3 = 0 from rfl] at hx127_1)
                                  (try rw [Addr.add_zero'] at hx127_1)
                                  (try rw [show ((0 : Int)).toNat = 0 from rfl] at hx127_2)
                                  (try rw [show 0 * 3 = 0 from rfl] at hx127_2)
                                  (try rw [Addr.add_zero'] at hx127_2)
                                  replace p127 := eq_true p127
                                  replace q127 := eq_true q127
                                  have p129 : 0 ≤ (0 : Int) := (by omega)
                                  have q129 : 0 < (l0.length : Int) := of_decide_eq_true (by first | (with_reducible assumption) | assumption)
                                  obtain ⟨ad129, e129, hx129_0, hx129_1, hx129_2⟩ := at_T45 HR0.out 0 p129 q129
                                  obtain rfl : ad120 = ad129 := (by injection e129)
                                  have qi129 : (0 < l0.length) = True := eq_true (by omega)
                                  (try rw [show ((0 : Int)).toNat = 0 from rfl] at hx129_0)
                                  (try rw [show 0 * 3 = 0 from rfl] at hx129_0)
                                  (try rw [Addr.add_zero'] at hx129_0)
                                  (try rw [show ((0 : Int)).toNat = 0 from rfl] at hx129_1)
                                  (try rw [show 0 * 3 = 0 from rfl] at hx129_1)
                                  (try rw [Addr.add_zero'] at hx129_1)
                                  (try rw [show ((0 : Int)).toNat = 0 from rfl] at hx129_2)
                                  (try rw [show 0 * 3 = 0 from rfl] at hx129_2)
                                  (try rw [Addr.add_zero'] at hx129_2)
                                  replace p129 := eq_true p129
                                  replace q129 := eq_true q129
                                  go_wp2
                                  go_ret
                                  exact ⟨by first | rfl | (simp; done) | (simp [*]; done), by repeat (first | exact Drawn0.refl _ | apply Drawn0.step)⟩
                              · rw [if_neg c36] at H
                                have c36b0 : (((rd_T45 l0 0).f0) == 6) = false := beq_eq_false_iff_ne.mpr c36
                                have c36b1 : (((rd_T45 l0 0).f0) != 6) = true := bne_iff_ne.mpr c36
                                obtain rfl := Option.some.inj H
                                have p127 : 0 ≤ (0 : Int) := (by omega)
                                have q127 : 0 < (l0.length : Int) := of_decide_eq_true (by first | (with_reducible assumption) | assumption)
                                obtain ⟨ad127, e127, hx127_0, hx127_1, hx127_2⟩ := at_T45 HR0.out 0 p127 q127
                                obtain rfl : ad120 = ad127 := (by injection e127)
                                have qi127 : (0 < l0.length) = True := eq_true (by omega)
                                (try rw [show ((0 : Int)).toNat = 0 from rfl] at hx127_0)
                                (try rw [show 0 * 3 = 0 from rfl] at hx127_0)
                                (try rw [Addr.add_zero'] at hx127_0)
                                (try rw [show ((0 : Int)).toNat = 0 from rfl] at hx127_1)
                                (try rw [show 0 * 3 = 0 from rfl] at hx127_1)
                                (try rw [Addr.add_zero'] at hx127_1)
                                (try rw [show ((0 : Int)).toNat = 0 from rfl] at hx127_2)
                                (try rw [show 0 * 3 = 0 from rfl] at hx127_2)
                                (try rw [Addr.add_zero'] at hx127_2)
                                replace p127 := eq_true p127
                                replace q127 := eq_true q127
                                have p129 : 0 ≤ (0 : Int) := (by omega)
                                have q129 : 0 < (l0.length : Int) := of_decide_eq_true (by first | (with_reducible assumption) | assumption)
                                obtain ⟨ad129, e129, hx129_0, hx129_1, hx129_2⟩ := at_T45 HR0.out 0 p129 q129
                                obtain rfl : ad120 = ad129 := (by injection e129)
                                have qi129 : (0 < l0.length) = True := eq_true (by omega)
                                (try rw [show ((0 : Int)).toNat = 0 from rfl] at hx129_0)
                                (try rw [show 0 * 3 = 0 from rfl] at hx129_0)
                                (try rw [Addr.add_zero'] at hx129_0)
                                (try rw [show ((0 : Int)).toNat = 0 from rfl] at hx129_1)
                                (try rw [show 0 * 3 = 0 from rfl] at hx129_1)
                                (try rw [Addr.add_zero'] at hx129_1)
                                (try rw [show ((0 : Int)).toNat = 0 from rfl] at hx129_2)
                                (try rw [show 0 * 3 = 0 from rfl] at hx129_2)
                                (try rw [Addr.add_zero'] at hx129_2)
                                replace p129 := eq_true p129
                                replace q129 := eq_true q129
                                go_wp2
                                go_ret
                                exact ⟨by first | rfl | (simp; done) | (simp [*]; done), by repeat (first | exact Drawn0.refl _ | apply Drawn0.step)⟩
                          · rw [if_neg c33] at H
                            exact absurd H (by simp)
              · rw [if_neg c19] at H
                exact absurd H (by simp)

end Go.Proofs.Ytoipkndeeeolcaa.PFnExactPlain
