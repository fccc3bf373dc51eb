-- Laid by a program of this session: a turned copy of the kit's print, with contracts by hand beside.
import Derived.Test.YtklinldidfdnjaaDoorPFnExactCompareVersionsx0
import Derived.Test.YtklinldidfdnjaaDoorPFnExactCompareVersionsx2
namespace Go.Proofs.YtklinldidfdnjaaDoor.PFnExactCompareVersions
open Go.RowKit Go.Proofs.YtklinldidfdnjaaDoorW.PrintWords Go.Proofs.YtklinldidfdnjaaDoorW.PrintLast Go.Proofs.YtklinldidfdnjaaDoorW.PrintMore
attribute [local go_sem] max2_int min2_int max_two min_two max_three min_three max_four min_four   -- for this text's walks alone
set_option linter.unusedVariables false
set_option linter.unusedSimpArgs false

/-! ### spec_l6Compare: function 37 -/
theorem leq_tri : ∀ a b : List UInt8, (Op.bytesLess a b = true ∧ Op.bytesLess b a = false ∧ (b == a) = false) ∨ (a = b ∧ Op.bytesLess a b = false) ∨ (Op.bytesLess b a = true ∧ Op.bytesLess a b = false ∧ (b == a) = false)
  | [], [] => Or.inr (Or.inl ⟨rfl, rfl⟩)
  | [], y :: b => Or.inl ⟨rfl, rfl, rfl⟩
  | x :: a, [] => Or.inr (Or.inr ⟨rfl, rfl, rfl⟩)
  | x :: a, y :: b => by
    have hlt : ∀ p q : UInt8, p < q ↔ p.toNat < q.toNat := fun p q => UInt8.lt_iff_toNat_lt
    have heq : ∀ p q : UInt8, p = q ↔ p.toNat = q.toNat := fun p q => ⟨fun h => by rw [h], fun h => UInt8.toNat_inj.1 h⟩
    unfold Op.bytesLess
    by_cases h1 : x < y
    · have h2 : ¬ y < x := by rw [hlt] at *; omega
      have h3 : ¬ x = y := by rw [hlt, heq] at *; omega
      exact Or.inl ⟨by simp [h1], by simp [h2, Ne.symm h3], by simp [Ne.symm h3]⟩
    · by_cases h2 : y < x
      · have h3 : ¬ x = y := by rw [hlt, heq] at *; omega
        exact Or.inr (Or.inr ⟨by simp [h2], by simp [h1, h3], by simp [Ne.symm h3]⟩)
      · have h3 : x = y := by rw [hlt] at *; rw [heq]; omega
        subst h3
        rcases leq_tri a b with ⟨p, q, r⟩ | ⟨p, q⟩ | ⟨p, q, r⟩
        · exact Or.inl ⟨by simp [p], by simp [h1, q], by simpa using r⟩
        · exact Or.inr (Or.inl ⟨by rw [p], by simp [h1, q]⟩)
        · exact Or.inr (Or.inr ⟨by simp [p], by simp [h1, q], by simpa using r⟩)
theorem leq_l1 {a b : List UInt8} (h : Op.bytesLess a b = true) : Op.bytesLess b a = false := by
  rcases leq_tri a b with ⟨p, q, r⟩ | ⟨p, q⟩ | ⟨p, q, r⟩
  · exact q
  · rw [h] at q; cases q
  · rw [h] at q; cases q
theorem leq_l2 {a b : List UInt8} (h : Op.bytesLess a b = true) : (b == a) = false := by
  rcases leq_tri a b with ⟨p, q, r⟩ | ⟨p, q⟩ | ⟨p, q, r⟩
  · exact r
  · rw [h] at q; cases q
  · exact r
theorem leq_l3 {a b : List UInt8} (h : Op.bytesLess a b = false) : (Op.bytesLess b a || b == a) = true := by
  rcases leq_tri a b with ⟨p, q, r⟩ | ⟨p, q⟩ | ⟨p, q, r⟩
  · rw [h] at p; cases p
  · rw [p]; simp
  · rw [p]; rfl
mutual
def spec_l6Compare.l0 : Nat → List (S95) → List (S95) → Int → Option (Int)
  | 0, _, _, _ => none
  | k + 1, x0, x1, x5 => if x5 < (x0.length : Int) then (spec_l6Compare.j1 k x0 x1 x5 true) else (spec_l6Compare.j1 k x0 x1 x5 (decide (x5 < (x1.length : Int))))
def spec_l6Compare.j1 : Nat → List (S95) → List (S95) → Int → Bool → Option (Int)
  | 0, _, _, _, _ => none
  | k + 1, x0, x1, x5, x17 => if x17 = true then ((spec_l6Rank.f x0 x5).bind fun t119 => ((spec_l6Rank.f x1 x5).bind fun t120 => (if t119 < t120 then (spec_l6Compare.j2 k x0 x1 x5 t119 t120 true) else (if t119 = 0 then (if t120 = 0 then (if 0 ≤ x5 then (if x5 < (x0.length : Int) then (if x5 < (x1.length : Int) then (if (Op.bytesLess (((rd_T95 x0 x5).f0).toList) (((rd_T95 x1 x5).f0).toList)) = true then (spec_l6Compare.j2 k x0 x1 x5 t119 t120 true) else (if t119 = 2 then (if t120 = 2 then (spec_l6Compare.j2 k x0 x1 x5 t119 t120 (decide (((rd_T95 x0 x5).f1) < ((rd_T95 x1 x5).f1)))) else (spec_l6Compare.j2 k x0 x1 x5 t119 t120 false)) else (spec_l6Compare.j2 k x0 x1 x5 t119 t120 false))) else (none)) else (none)) else (none)) else (if t119 = 2 then (if t120 = 2 then (if 0 ≤ x5 then (if x5 < (x0.length : Int) then (if x5 < (x1.length : Int) then (spec_l6Compare.j2 k x0 x1 x5 t119 t120 (decide (((rd_T95 x0 x5).f1) < ((rd_T95 x1 x5).f1)))) else (none)) else (none)) else (none)) else (spec_l6Compare.j2 k x0 x1 x5 t119 t120 false)) else (spec_l6Compare.j2 k x0 x1 x5 t119 t120 false))) else (if t119 = 2 then (if t120 = 2 then (if 0 ≤ x5 then (if x5 < (x0.length : Int) then (if x5 < (x1.length : Int) then (spec_l6Compare.j2 k x0 x1 x5 t119 t120 (decide (((rd_T95 x0 x5).f1) < ((rd_T95 x1 x5).f1)))) else (none)) else (none)) else (none)) else (spec_l6Compare.j2 k x0 x1 x5 t119 t120 false)) else (spec_l6Compare.j2 k x0 x1 x5 t119 t120 false)))))) else (some 0)
def spec_l6Compare.j2 : Nat → List (S95) → List (S95) → Int → Int → Int → Bool → Option (Int)
  | 0, _, _, _, _, _, _ => none
  | k + 1, x0, x1, x5, x6, x7, x26 => if x26 = true then (some (-1)) else (if x6 > x7 then (some 1) else (if x6 = 0 then (if 0 ≤ x5 then (if x5 < (x0.length : Int) then (if x5 < (x1.length : Int) then (if (Op.bytesLess (((rd_T95 x1 x5).f0).toList) (((rd_T95 x0 x5).f0).toList)) = true then (some 1) else (if x6 = 2 then (if ((rd_T95 x0 x5).f1) > ((rd_T95 x1 x5).f1) then (some 1) else (spec_l6Compare.l0 k x0 x1 (wrap64 (x5 + 1)))) else (spec_l6Compare.l0 k x0 x1 (wrap64 (x5 + 1))))) else (none)) else (none)) else (none)) else (if x6 = 2 then (if 0 ≤ x5 then (if x5 < (x0.length : Int) then (if x5 < (x1.length : Int) then (if ((rd_T95 x0 x5).f1) > ((rd_T95 x1 x5).f1) then (some 1) else (spec_l6Compare.l0 k x0 x1 (wrap64 (x5 + 1)))) else (none)) else (none)) else (none)) else (spec_l6Compare.l0 k x0 x1 (wrap64 (x5 + 1))))))
end
def spec_l6Compare.f (k : Nat) (l0 : List (S95)) (l1 : List (S95)) : Option (Int) := spec_l6Compare.l0 k l0 l1 0
theorem spec_l6Compare.mono_l : ∀ k, (∀ y0 y1 y2, LeO (spec_l6Compare.l0 k y0 y1 y2) (spec_l6Compare.l0 (k + 1) y0 y1 y2)) ∧ (∀ y0 y1 y2 y3, LeO (spec_l6Compare.j1 k y0 y1 y2 y3) (spec_l6Compare.j1 (k + 1) y0 y1 y2 y3)) ∧ (∀ y0 y1 y2 y3 y4 y5, LeO (spec_l6Compare.j2 k y0 y1 y2 y3 y4 y5) (spec_l6Compare.j2 (k + 1) y0 y1 y2 y3 y4 y5))
  | 0 => ⟨fun _ _ _ r h => by simp [spec_l6Compare.l0] at h, fun _ _ _ _ r h => by simp [spec_l6Compare.j1] at h, fun _ _ _ _ _ _ r h => by simp [spec_l6Compare.j2] at h⟩
  | k + 1 => by
    obtain ⟨ih0, ih1, ih2⟩ := spec_l6Compare.mono_l k
    refine ⟨?_, ?_, ?_⟩
    · intro y0 y1 y2
      unfold spec_l6Compare.l0
      repeat' first
      | (with_reducible exact ih0 _ _ _)
      | (with_reducible exact ih1 _ _ _ _)
      | (with_reducible exact ih2 _ _ _ _ _ _)
      | (with_reducible exact LeO.refl _)
      | (with_reducible exact LeO.none _)
      | (with_reducible refine LeO.ite ?_ ?_)
      | (with_reducible refine LeO.bind ?_ (fun _ => ?_))
      | exact ih0 _ _ _
      | exact ih1 _ _ _ _
      | exact ih2 _ _ _ _ _ _
      | exact LeO.none _
      | refine LeO.ite ?_ ?_
      | refine LeO.bind ?_ (fun _ => ?_)
    · intro y0 y1 y2 y3
      unfold spec_l6Compare.j1
      repeat' first
      | (with_reducible exact ih0 _ _ _)
      | (with_reducible exact ih1 _ _ _ _)
      | (with_reducible exact ih2 _ _ _ _ _ _)
      | (with_reducible exact LeO.refl _)
      | (with_reducible exact LeO.none _)
      | (with_reducible refine LeO.ite ?_ ?_)
      | (with_reducible refine LeO.bind ?_ (fun _ => ?_))
      | exact ih0 _ _ _
      | exact ih1 _ _ _ _
      | exact ih2 _ _ _ _ _ _
      | exact LeO.none _
      | refine LeO.ite ?_ ?_
      | refine LeO.bind ?_ (fun _ => ?_)
    · intro y0 y1 y2 y3 y4 y5
      unfold spec_l6Compare.j2
      repeat' first
      | (with_reducible exact ih0 _ _ _)
      | (with_reducible exact ih1 _ _ _ _)
      | (with_reducible exact ih2 _ _ _ _ _ _)
      | (with_reducible exact LeO.refl _)
      | (with_reducible exact LeO.none _)
      | (with_reducible refine LeO.ite ?_ ?_)
      | (with_reducible refine LeO.bind ?_ (fun _ => ?_))
      | exact ih0 _ _ _
      | exact ih1 _ _ _ _
      | exact ih2 _ _ _ _ _ _
      | exact LeO.none _
      | refine LeO.ite ?_ ?_
      | refine LeO.bind ?_ (fun _ => ?_)
theorem spec_l6Compare.mono : ∀ a0 a1 k, LeO (spec_l6Compare.f k a0 a1) (spec_l6Compare.f (k + 1) a0 a1) := by
  intro a0 a1 k
  obtain ⟨ih0, ih1, ih2⟩ := spec_l6Compare.mono_l k
  unfold spec_l6Compare.f
  repeat' first
      | (with_reducible exact ih0 _ _ _)
      | (with_reducible exact ih1 _ _ _ _)
      | (with_reducible exact ih2 _ _ _ _ _ _)
      | (with_reducible exact LeO.refl _)
      | (with_reducible exact LeO.none _)
      | (with_reducible refine LeO.ite ?_ ?_)
      | (with_reducible refine LeO.bind ?_ (fun _ => ?_))
      | exact ih0 _ _ _
      | exact ih1 _ _ _ _
      | exact ih2 _ _ _ _ _ _
      | exact LeO.none _
      | refine LeO.ite ?_ ?_
      | refine LeO.bind ?_ (fun _ => ?_)
set_option maxHeartbeats 8000000 in
set_option maxRecDepth 100000 in
theorem spec_l6Compare.calls (k : Nat) (A0 : Option Addr) (c0 : Nat) (l0 : List (S95)) (A1 : Option Addr) (c1 : Nat) (l1 : List (S95)) (r : Int) (w : World) (hr0 : Kd.C k95 w A0 l0.length l0) (hc0 : l0.length ≤ c0) (hr1 : Kd.C k95 w A1 l1.length l1) (hc1 : l1.length ≤ c1) (h : spec_l6Compare.f k l0 l1 = some r) :
    Calls Tryd.prog 37 #[.slice A0 l0.length c0, .slice A1 l1.length c1] w fun e w' => e = .returned (.int .i64 r) ∧ Drawn0 w w' := by
  have HR0 := Aside0.mk hr0
  have HC0 := Aside0.mk hc0
  clear hr0 hc0
  have HR1 := Aside0.mk hr1
  have HC1 := Aside0.mk hc1
  clear hr1 hc1
  have H : (spec_l6Compare.l0 k l0 l1 0) = some r := h
  clear h
  have H' := Aside0.mk H
  clear H
  go_enter Tryd.func37, Tryd.ntmps37
  go_wp2
  repeat (go_quiet (fail); try go_wp2)
  go_loopg [5] k (fun kq v5 w' => ∃ (x5_1 : Int), v5 = .int .i64 x5_1 ∧ Aside0 (spec_l6Compare.l0 kq l0 l1 x5_1 = some r) ∧ Aside0 (kq ≤ k) ∧ Drawn0 w w')
  case atStart => exact ⟨(0), (by first | rfl | (simp; done) | (simp [*]; done)), H', ⟨Nat.le_refl _⟩, by repeat (first | exact Drawn0.refl _ | apply Drawn0.step)⟩
  case round =>
    clear H'
    try clear c1
    try clear p2
    obtain ⟨x5_1, rfl, HA, HK1, ⟨m1, rfl⟩⟩ := hrel
    cases gk with
    | zero => exact absurd HA.out (by simp [spec_l6Compare.l0])
    | succ k1 =>
      have H := HA.out
      clear HA
      simp only [spec_l6Compare.l0] at H
      have HC3 := Aside0.mk H
      clear H
      go_upto_region 2 with (fail)
      repeat (go_quiet (fail); go_upto_region 2 with (fail))
      go_cut [17] (fun v17 wc => ∃ (kq : Nat) (x17_2 : Bool), v17 = .bool x17_2 ∧ Aside0 (spec_l6Compare.j1 kq l0 l1 x5_1 x17_2 = some r) ∧ Aside0 (kq ≤ k1) ∧ Drawn0 w wc)
      case first =>
        have H := HC3.out
        clear HC3
        by_cases c4 : x5_1 < (l0.length : Int)
        · rw [if_pos c4] at H
          have c4b0 : decide (x5_1 < (l0.length : Int)) = true := decide_eq_true c4
          clear c4
          (first | rw [c4b0] | (simp only [i64_w, i32_w]; rw [c4b0]) | skip)
          have H' := Aside0.mk H
          clear H
          go_wp2
          repeat (go_quiet (fail); try go_wp2)
          go_meet
          case rel => exact ⟨_, (true), (by first | rfl | (simp; done) | (simp [*]; done)), H', ⟨by have := HK1.out; first | omega | exact Nat.le_refl _⟩, by repeat (first | exact Drawn0.refl _ | apply Drawn0.step)⟩
        · rw [if_neg c4] at H
          have c4b0 : decide (x5_1 < (l0.length : Int)) = false := decide_eq_false c4
          clear c4
          (first | rw [c4b0] | (simp only [i64_w, i32_w]; rw [c4b0]) | skip)
          have H' := Aside0.mk H
          clear H
          go_wp2
          repeat (go_quiet (fail); try go_wp2)
          go_meet
          case rel => exact ⟨_, (decide (x5_1 < (l1.length : Int))), (by first | rfl | (simp; done) | (simp [*]; done)), H', ⟨by have := HK1.out; first | omega | exact Nat.le_refl _⟩, by repeat (first | exact Drawn0.refl _ | apply Drawn0.step)⟩
      case rest =>
        clear HC3
        try clear c1
        try clear p2
        try clear c3
        try clear c4
        try clear c4b0
        try clear p2
        obtain ⟨kq, x17_2, rfl, HA, HJ2, ⟨mc2, rfl⟩⟩ := hcut
        cases kq with
        | zero => exact absurd HA.out (by simp [spec_l6Compare.j1])
        | succ kj2 =>
          have H := HA.out
          clear HA
          simp only [spec_l6Compare.j1] at H
          by_cases c5 : x17_2 = true
          · subst c5
            have H1 : ((spec_l6Rank.f l0 x5_1).bind fun t119 => ((spec_l6Rank.f l1 x5_1).bind fun t120 => (if t119 < t120 then (spec_l6Compare.j2 kj2 l0 l1 x5_1 t119 t120 true) else (if t119 = 0 then (if t120 = 0 then (if 0 ≤ x5_1 then (if x5_1 < (l0.length : Int) then (if x5_1 < (l1.length : Int) then (if (Op.bytesLess (((rd_T95 l0 x5_1).f0).toList) (((rd_T95 l1 x5_1).f0).toList)) = true then (spec_l6Compare.j2 kj2 l0 l1 x5_1 t119 t120 true) else (if t119 = 2 then (if t120 = 2 then (spec_l6Compare.j2 kj2 l0 l1 x5_1 t119 t120 (decide (((rd_T95 l0 x5_1).f1) < ((rd_T95 l1 x5_1).f1)))) else (spec_l6Compare.j2 kj2 l0 l1 x5_1 t119 t120 false)) else (spec_l6Compare.j2 kj2 l0 l1 x5_1 t119 t120 false))) else (none)) else (none)) else (none)) else (if t119 = 2 then (if t120 = 2 then (if 0 ≤ x5_1 then (if x5_1 < (l0.length : Int) then (if x5_1 < (l1.length : Int) then (spec_l6Compare.j2 kj2 l0 l1 x5_1 t119 t120 (decide (((rd_T95 l0 x5_1).f1) < ((rd_T95 l1 x5_1).f1)))) else (none)) else (none)) else (none)) else (spec_l6Compare.j2 kj2 l0 l1 x5_1 t119 t120 false)) else (spec_l6Compare.j2 kj2 l0 l1 x5_1 t119 t120 false))) else (if t119 = 2 then (if t120 = 2 then (if 0 ≤ x5_1 then (if x5_1 < (l0.length : Int) then (if x5_1 < (l1.length : Int) then (spec_l6Compare.j2 kj2 l0 l1 x5_1 t119 t120 (decide (((rd_T95 l0 x5_1).f1) < ((rd_T95 l1 x5_1).f1)))) else (none)) else (none)) else (none)) else (spec_l6Compare.j2 kj2 l0 l1 x5_1 t119 t120 false)) else (spec_l6Compare.j2 kj2 l0 l1 x5_1 t119 t120 false)))))) = some r := by rw [if_pos rfl] at H; exact H
            clear H
            have H := H1
            clear H1
            replace H := Option.bind_eq_some_iff.mp H
            obtain ⟨t119, A60, H⟩ := H
            replace H : ((spec_l6Rank.f l1 x5_1).bind fun t120 => (if t119 < t120 then (spec_l6Compare.j2 kj2 l0 l1 x5_1 t119 t120 true) else (if t119 = 0 then (if t120 = 0 then (if 0 ≤ x5_1 then (if x5_1 < (l0.length : Int) then (if x5_1 < (l1.length : Int) then (if (Op.bytesLess (((rd_T95 l0 x5_1).f0).toList) (((rd_T95 l1 x5_1).f0).toList)) = true then (spec_l6Compare.j2 kj2 l0 l1 x5_1 t119 t120 true) else (if t119 = 2 then (if t120 = 2 then (spec_l6Compare.j2 kj2 l0 l1 x5_1 t119 t120 (decide (((rd_T95 l0 x5_1).f1) < ((rd_T95 l1 x5_1).f1)))) else (spec_l6Compare.j2 kj2 l0 l1 x5_1 t119 t120 false)) else (spec_l6Compare.j2 kj2 l0 l1 x5_1 t119 t120 false))) else (none)) else (none)) else (none)) else (if t119 = 2 then (if t120 = 2 then (if 0 ≤ x5_1 then (if x5_1 < (l0.length : Int) then (if x5_1 < (l1.length : Int) then (spec_l6Compare.j2 kj2 l0 l1 x5_1 t119 t120 (decide (((rd_T95 l0 x5_1).f1) < ((rd_T95 l1 x5_1).f1)))) else (none)) else (none)) else (none)) else (spec_l6Compare.j2 kj2 l0 l1 x5_1 t119 t120 false)) else (spec_l6Compare.j2 kj2 l0 l1 x5_1 t119 t120 false))) else (if t119 = 2 then (if t120 = 2 then (if 0 ≤ x5_1 then (if x5_1 < (l0.length : Int) then (if x5_1 < (l1.length : Int) then (spec_l6Compare.j2 kj2 l0 l1 x5_1 t119 t120 (decide (((rd_T95 l0 x5_1).f1) < ((rd_T95 l1 x5_1).f1)))) else (none)) else (none)) else (none)) else (spec_l6Compare.j2 kj2 l0 l1 x5_1 t119 t120 false)) else (spec_l6Compare.j2 kj2 l0 l1 x5_1 t119 t120 false))))) = some r := H
            have A6 := Aside0.mk A60
            clear A60
            replace H := Option.bind_eq_some_iff.mp H
            obtain ⟨t120, A70, H⟩ := H
            replace H : (if t119 < t120 then (spec_l6Compare.j2 kj2 l0 l1 x5_1 t119 t120 true) else (if t119 = 0 then (if t120 = 0 then (if 0 ≤ x5_1 then (if x5_1 < (l0.length : Int) then (if x5_1 < (l1.length : Int) then (if (Op.bytesLess (((rd_T95 l0 x5_1).f0).toList) (((rd_T95 l1 x5_1).f0).toList)) = true then (spec_l6Compare.j2 kj2 l0 l1 x5_1 t119 t120 true) else (if t119 = 2 then (if t120 = 2 then (spec_l6Compare.j2 kj2 l0 l1 x5_1 t119 t120 (decide (((rd_T95 l0 x5_1).f1) < ((rd_T95 l1 x5_1).f1)))) else (spec_l6Compare.j2 kj2 l0 l1 x5_1 t119 t120 false)) else (spec_l6Compare.j2 kj2 l0 l1 x5_1 t119 t120 false))) else (none)) else (none)) else (none)) else (if t119 = 2 then (if t120 = 2 then (if 0 ≤ x5_1 then (if x5_1 < (l0.length : Int) then (if x5_1 < (l1.length : Int) then (spec_l6Compare.j2 kj2 l0 l1 x5_1 t119 t120 (decide (((rd_T95 l0 x5_1).f1) < ((rd_T95 l1 x5_1).f1)))) else (none)) else (none)) else (none)) else (spec_l6Compare.j2 kj2 l0 l1 x5_1 t119 t120 false)) else (spec_l6Compare.j2 kj2 l0 l1 x5_1 t119 t120 false))) else (if t119 = 2 then (if t120 = 2 then (if 0 ≤ x5_1 then (if x5_1 < (l0.length : Int) then (if x5_1 < (l1.length : Int) then (spec_l6Compare.j2 kj2 l0 l1 x5_1 t119 t120 (decide (((rd_T95 l0 x5_1).f1) < ((rd_T95 l1 x5_1).f1)))) else (none)) else (none)) else (none)) else (spec_l6Compare.j2 kj2 l0 l1 x5_1 t119 t120 false)) else (spec_l6Compare.j2 kj2 l0 l1 x5_1 t119 t120 false)))) = some r := H
            have A7 := Aside0.mk A70
            clear A70
            have HC8 := Aside0.mk H
            clear H
            go_upto_region 6 with (first | (go_at_call 76; (with_reducible refine (spec_l6Rank.calls _ _ l0 x5_1 t119 _ ?side1 ?side2 A6.out).mono ?_); (case side1 => repeat (first | exact HR0.out | (with_reducible refine Kd.C_alloc ?_ _) | (with_reducible refine Kd.C_drewN ?_ _) | (with_reducible refine Kd.C_drew ?_))); (case side2 => exact HC0.out); rintro e w' ⟨rfl, ⟨nd, rfl⟩⟩; (try first | exact ⟨rfl, _, World.drewN_drewN _ _ _⟩ | exact ⟨rfl, _, Eq.trans (World.drewN_drewN _ _ _) (congrArg (World.drewN _) (Nat.add_assoc _ _ _))⟩)) | (go_at_call 76; (with_reducible refine (spec_l6Rank.calls _ _ l1 x5_1 t120 _ ?side1 ?side2 A7.out).mono ?_); (case side1 => repeat (first | exact HR1.out | (with_reducible refine Kd.C_alloc ?_ _) | (with_reducible refine Kd.C_drewN ?_ _) | (with_reducible refine Kd.C_drew ?_))); (case side2 => exact HC1.out); rintro e w' ⟨rfl, ⟨nd, rfl⟩⟩; (try first | exact ⟨rfl, _, World.drewN_drewN _ _ _⟩ | exact ⟨rfl, _, Eq.trans (World.drewN_drewN _ _ _) (congrArg (World.drewN _) (Nat.add_assoc _ _ _))⟩)))
            repeat (go_quiet (first | (go_at_call 76; (with_reducible refine (spec_l6Rank.calls _ _ l0 x5_1 t119 _ ?side1 ?side2 A6.out).mono ?_); (case side1 => repeat (first | exact HR0.out | (with_reducible refine Kd.C_alloc ?_ _) | (with_reducible refine Kd.C_drewN ?_ _) | (with_reducible refine Kd.C_drew ?_))); (case side2 => exact HC0.out); rintro e w' ⟨rfl, ⟨nd, rfl⟩⟩; (try first | exact ⟨rfl, _, World.drewN_drewN _ _ _⟩ | exact ⟨rfl, _, Eq.trans (World.drewN_drewN _ _ _) (congrArg (World.drewN _) (Nat.add_assoc _ _ _))⟩)) | (go_at_call 76; (with_reducible refine (spec_l6Rank.calls _ _ l1 x5_1 t120 _ ?side1 ?side2 A7.out).mono ?_); (case side1 => repeat (first | exact HR1.out | (with_reducible refine Kd.C_alloc ?_ _) | (with_reducible refine Kd.C_drewN ?_ _) | (with_reducible refine Kd.C_drew ?_))); (case side2 => exact HC1.out); rintro e w' ⟨rfl, ⟨nd, rfl⟩⟩; (try first | exact ⟨rfl, _, World.drewN_drewN _ _ _⟩ | exact ⟨rfl, _, Eq.trans (World.drewN_drewN _ _ _) (congrArg (World.drewN _) (Nat.add_assoc _ _ _))⟩))); go_upto_region 6 with (first | (go_at_call 76; (with_reducible refine (spec_l6Rank.calls _ _ l0 x5_1 t119 _ ?side1 ?side2 A6.out).mono ?_); (case side1 => repeat (first | exact HR0.out | (with_reducible refine Kd.C_alloc ?_ _) | (with_reducible refine Kd.C_drewN ?_ _) | (with_reducible refine Kd.C_drew ?_))); (case side2 => exact HC0.out); rintro e w' ⟨rfl, ⟨nd, rfl⟩⟩; (try first | exact ⟨rfl, _, World.drewN_drewN _ _ _⟩ | exact ⟨rfl, _, Eq.trans (World.drewN_drewN _ _ _) (congrArg (World.drewN _) (Nat.add_assoc _ _ _))⟩)) | (go_at_call 76; (with_reducible refine (spec_l6Rank.calls _ _ l1 x5_1 t120 _ ?side1 ?side2 A7.out).mono ?_); (case side1 => repeat (first | exact HR1.out | (with_reducible refine Kd.C_alloc ?_ _) | (with_reducible refine Kd.C_drewN ?_ _) | (with_reducible refine Kd.C_drew ?_))); (case side2 => exact HC1.out); rintro e w' ⟨rfl, ⟨nd, rfl⟩⟩; (try first | exact ⟨rfl, _, World.drewN_drewN _ _ _⟩ | exact ⟨rfl, _, Eq.trans (World.drewN_drewN _ _ _) (congrArg (World.drewN _) (Nat.add_assoc _ _ _))⟩))))
            (try simp only [Act.put, List.setIfInBounds_toArray, List.set_cons_zero, List.set_cons_succ])
            go_cut [26] (fun v26 wc => ∃ (kq : Nat) (x26_7 : Bool), v26 = .bool x26_7 ∧ Aside0 (spec_l6Compare.j2 kq l0 l1 x5_1 t119 t120 x26_7 = some r) ∧ Aside0 (kq ≤ kj2) ∧ Drawn0 w wc)
            case first =>
              have H := HC8.out
              clear HC8
              by_cases c9 : t119 < t120
              · rw [if_pos c9] at H
                have c9b0 : decide (t119 < t120) = true := decide_eq_true c9
                clear c9
                (first | rw [c9b0] | (simp only [i64_w, i32_w]; rw [c9b0]) | skip)
                have H' := Aside0.mk H
                clear H
                go_wp2
                repeat (go_quiet (fail); try go_wp2)
                go_meet
                case rel => exact ⟨_, (true), (by first | rfl | (simp; done) | (simp [*]; done)), H', ⟨by have := HK1.out; have := HJ2.out; first | omega | exact Nat.le_refl _⟩, by repeat (first | exact Drawn0.refl _ | apply Drawn0.step)⟩
              · rw [if_neg c9] at H
                have c9b0 : decide (t119 < t120) = false := decide_eq_false c9
                clear c9
                (first | rw [c9b0] | (simp only [i64_w, i32_w]; rw [c9b0]) | skip)
                by_cases c10 : t119 = 0
                · rw [if_pos c10] at H
                  have c10b0 : (t119 == 0) = true := beq_iff_eq.mpr c10
                  have c10b1 : (t119 != 0) = false := bne_eq_false_iff_eq.mpr c10
                  clear c10
                  by_cases c11 : t120 = 0
                  · rw [if_pos c11] at H
                    have c11b0 : (t120 == 0) = true := beq_iff_eq.mpr c11
                    have c11b1 : (t120 != 0) = false := bne_eq_false_iff_eq.mpr c11
                    clear c11
                    by_cases c12 : 0 ≤ x5_1
                    · rw [if_pos c12] at H
                      have c12b0 : decide (0 ≤ x5_1) = true := decide_eq_true c12
                      clear c12
                      by_cases c13 : x5_1 < (l0.length : Int)
                      · rw [if_pos c13] at H
                        have c13b0 : decide (x5_1 < (l0.length : Int)) = true := decide_eq_true c13
                        clear c13
                        by_cases c14 : x5_1 < (l1.length : Int)
                        · rw [if_pos c14] at H
                          have c14b0 : decide (x5_1 < (l1.length : Int)) = true := decide_eq_true c14
                          clear c14
                          by_cases c15 : (Op.bytesLess (((rd_T95 l0 x5_1).f0).toList) (((rd_T95 l1 x5_1).f0).toList)) = true
                          · rw [if_pos c15] at H
                            have c15b0 : (Op.bytesLess (((rd_T95 l0 x5_1).f0).toList) (((rd_T95 l1 x5_1).f0).toList)) = true := c15
                            have c15b0l1 := leq_l1 c15b0
                            have c15b0l2 := leq_l2 c15b0
                            clear c15
                            have H' := Aside0.mk H
                            clear H
                            have p121 : 0 ≤ (x5_1 : Int) := of_decide_eq_true (by first | (with_reducible assumption) | assumption)
                            have q121 : x5_1 < (l0.length : Int) := of_decide_eq_true (by first | (with_reducible assumption) | assumption)
                            obtain ⟨ad121, e121, hx121_0, hx121_1⟩ := at_T95 HR0.out x5_1 p121 q121
                            cases e121
                            replace p121 := eq_true p121
                            replace q121 := eq_true q121
                            have p122 : 0 ≤ (x5_1 : Int) := of_decide_eq_true (by first | (with_reducible assumption) | assumption)
                            have q122 : x5_1 < (l1.length : Int) := of_decide_eq_true (by first | (with_reducible assumption) | assumption)
                            obtain ⟨ad122, e122, hx122_0, hx122_1⟩ := at_T95 HR1.out x5_1 p122 q122
                            cases e122
                            replace p122 := eq_true p122
                            replace q122 := eq_true q122
                            go_wp2
                            repeat (go_quiet (fail); try go_wp2)
                            go_meet
                            case rel => exact ⟨_, (true), (by first | rfl | (simp; done) | (simp [*]; done)), H', ⟨by have := HK1.out; have := HJ2.out; first | omega | exact Nat.le_refl _⟩, by repeat (first | exact Drawn0.refl _ | apply Drawn0.step)⟩
                          · rw [if_neg c15] at H
                            have c15b0 : (Op.bytesLess (((rd_T95 l0 x5_1).f0).toList) (((rd_T95 l1 x5_1).f0).toList)) = false := by simpa using c15
                            have c15b0l3 := leq_l3 c15b0
                            clear c15
                            by_cases c16 : t119 = 2
                            · rw [if_pos c16] at H
                              have c16b0 : (t119 == 2) = true := beq_iff_eq.mpr c16
                              have c16b1 : (t119 != 2) = false := bne_eq_false_iff_eq.mpr c16
                              clear c16
                              by_cases c17 : t120 = 2
                              · rw [if_pos c17] at H
                                have c17b0 : (t120 == 2) = true := beq_iff_eq.mpr c17
                                have c17b1 : (t120 != 2) = false := bne_eq_false_iff_eq.mpr c17
                                clear c17
                                have H' := Aside0.mk H
                                clear H
                                have p121 : 0 ≤ (x5_1 : Int) := of_decide_eq_true (by first | (with_reducible assumption) | assumption)
                                have q121 : x5_1 < (l0.length : Int) := of_decide_eq_true (by first | (with_reducible assumption) | assumption)
                                obtain ⟨ad121, e121, hx121_0, hx121_1⟩ := at_T95 HR0.out x5_1 p121 q121
                                cases e121
                                replace p121 := eq_true p121
                                replace q121 := eq_true q121
                                have p122 : 0 ≤ (x5_1 : Int) := of_decide_eq_true (by first | (with_reducible assumption) | assumption)
                                have q122 : x5_1 < (l1.length : Int) := of_decide_eq_true (by first | (with_reducible assumption) | assumption)
                                obtain ⟨ad122, e122, hx122_0, hx122_1⟩ := at_T95 HR1.out x5_1 p122 q122
                                cases e122
                                replace p122 := eq_true p122
                                replace q122 := eq_true q122
                                have p123 : 0 ≤ (x5_1 : Int) := of_decide_eq_true (by first | (with_reducible assumption) | assumption)
                                have q123 : x5_1 < (l0.length : Int) := of_decide_eq_true (by first | (with_reducible assumption) | assumption)
                                obtain ⟨ad123, e123, hx123_0, hx123_1⟩ := at_T95 HR0.out x5_1 p123 q123
                                obtain rfl : ad121 = ad123 := (by injection e123)
                                replace p123 := eq_true p123
                                replace q123 := eq_true q123
                                have p124 : 0 ≤ (x5_1 : Int) := of_decide_eq_true (by first | (with_reducible assumption) | assumption)
                                have q124 : x5_1 < (l1.length : Int) := of_decide_eq_true (by first | (with_reducible assumption) | assumption)
                                obtain ⟨ad124, e124, hx124_0, hx124_1⟩ := at_T95 HR1.out x5_1 p124 q124
                                obtain rfl : ad122 = ad124 := (by injection e124)
                                replace p124 := eq_true p124
                                replace q124 := eq_true q124
                                go_wp2
                                repeat (go_quiet (fail); try go_wp2)
                                go_meet
                                case rel => exact ⟨_, (decide (((rd_T95 l0 x5_1).f1) < ((rd_T95 l1 x5_1).f1))), (by first | rfl | (simp; done) | (simp [*]; done)), H', ⟨by have := HK1.out; have := HJ2.out; first | omega | exact Nat.le_refl _⟩, by repeat (first | exact Drawn0.refl _ | apply Drawn0.step)⟩
                              · rw [if_neg c17] at H
                                have c17b0 : (t120 == 2) = false := beq_eq_false_iff_ne.mpr c17
                                have c17b1 : (t120 != 2) = true := bne_iff_ne.mpr c17
                                have H' := Aside0.mk H
                                clear H
                                have p121 : 0 ≤ (x5_1 : Int) := of_decide_eq_true (by first | (with_reducible assumption) | assumption)
                                have q121 : x5_1 < (l0.length : Int) := of_decide_eq_true (by first | (with_reducible assumption) | assumption)
                                obtain ⟨ad121, e121, hx121_0, hx121_1⟩ := at_T95 HR0.out x5_1 p121 q121
                                cases e121
                                replace p121 := eq_true p121
                                replace q121 := eq_true q121
                                have p122 : 0 ≤ (x5_1 : Int) := of_decide_eq_true (by first | (with_reducible assumption) | assumption)
                                have q122 : x5_1 < (l1.length : Int) := of_decide_eq_true (by first | (with_reducible assumption) | assumption)
                                obtain ⟨ad122, e122, hx122_0, hx122_1⟩ := at_T95 HR1.out x5_1 p122 q122
                                cases e122
                                replace p122 := eq_true p122
                                replace q122 := eq_true q122
                                go_wp2
                                repeat (go_quiet (fail); try go_wp2)
                                go_meet
                                case rel => exact ⟨_, (false), (by first | rfl | (simp; done) | (simp [*]; done)), H', ⟨by have := HK1.out; have := HJ2.out; first | omega | exact Nat.le_refl _⟩, by repeat (first | exact Drawn0.refl _ | apply Drawn0.step)⟩
                            · rw [if_neg c16] at H
                              have c16b0 : (t119 == 2) = false := beq_eq_false_iff_ne.mpr c16
                              have c16b1 : (t119 != 2) = true := bne_iff_ne.mpr c16
                              have H' := Aside0.mk H
                              clear H
                              have p121 : 0 ≤ (x5_1 : Int) := of_decide_eq_true (by first | (with_reducible assumption) | assumption)
                              have q121 : x5_1 < (l0.length : Int) := of_decide_eq_true (by first | (with_reducible assumption) | assumption)
                              obtain ⟨ad121, e121, hx121_0, hx121_1⟩ := at_T95 HR0.out x5_1 p121 q121
                              cases e121
                              replace p121 := eq_true p121
                              replace q121 := eq_true q121
                              have p122 : 0 ≤ (x5_1 : Int) := of_decide_eq_true (by first | (with_reducible assumption) | assumption)
                              have q122 : x5_1 < (l1.length : Int) := of_decide_eq_true (by first | (with_reducible assumption) | assumption)
                              obtain ⟨ad122, e122, hx122_0, hx122_1⟩ := at_T95 HR1.out x5_1 p122 q122
                              cases e122
                              replace p122 := eq_true p122
                              replace q122 := eq_true q122
                              go_wp2
                              repeat (go_quiet (fail); try go_wp2)
                              go_meet
                              case rel => exact ⟨_, (false), (by first | rfl | (simp; done) | (simp [*]; done)), H', ⟨by have := HK1.out; have := HJ2.out; first | omega | exact Nat.le_refl _⟩, by repeat (first | exact Drawn0.refl _ | apply Drawn0.step)⟩
                        · rw [if_neg c14] at H
                          exact absurd H (by simp)
                      · rw [if_neg c13] at H
                        exact absurd H (by simp)
                    · rw [if_neg c12] at H
                      exact absurd H (by simp)
                  · rw [if_neg c11] at H
                    have c11b0 : (t120 == 0) = false := beq_eq_false_iff_ne.mpr c11
                    have c11b1 : (t120 != 0) = true := bne_iff_ne.mpr c11
                    by_cases c18 : t119 = 2
                    · rw [if_pos c18] at H
                      have c18b0 : (t119 == 2) = true := beq_iff_eq.mpr c18
                      have c18b1 : (t119 != 2) = false := bne_eq_false_iff_eq.mpr c18
                      clear c18
                      by_cases c19 : t120 = 2
                      · rw [if_pos c19] at H
                        have c19b0 : (t120 == 2) = true := beq_iff_eq.mpr c19
                        have c19b1 : (t120 != 2) = false := bne_eq_false_iff_eq.mpr c19
                        clear c19
                        by_cases c20 : 0 ≤ x5_1
                        · rw [if_pos c20] at H
                          have c20b0 : decide (0 ≤ x5_1) = true := decide_eq_true c20
                          clear c20
                          by_cases c21 : x5_1 < (l0.length : Int)
                          · rw [if_pos c21] at H
                            have c21b0 : decide (x5_1 < (l0.length : Int)) = true := decide_eq_true c21
                            clear c21
                            by_cases c22 : x5_1 < (l1.length : Int)
                            · rw [if_pos c22] at H
                              have c22b0 : decide (x5_1 < (l1.length : Int)) = true := decide_eq_true c22
                              clear c22
                              have H' := Aside0.mk H
                              clear H
                              have p125 : 0 ≤ (x5_1 : Int) := of_decide_eq_true (by first | (with_reducible assumption) | assumption)
                              have q125 : x5_1 < (l0.length : Int) := of_decide_eq_true (by first | (with_reducible assumption) | assumption)
                              obtain ⟨ad125, e125, hx125_0, hx125_1⟩ := at_T95 HR0.out x5_1 p125 q125
                              cases e125
                              replace p125 := eq_true p125
                              replace q125 := eq_true q125
                              have p126 : 0 ≤ (x5_1 : Int) := of_decide_eq_true (by first | (with_reducible assumption) | assumption)
                              have q126 : x5_1 < (l1.length : Int) := of_decide_eq_true (by first | (with_reducible assumption) | assumption)
                              obtain ⟨ad126, e126, hx126_0, hx126_1⟩ := at_T95 HR1.out x5_1 p126 q126
                              cases e126
                              replace p126 := eq_true p126
                              replace q126 := eq_true q126
                              go_wp2
                              repeat (go_quiet (fail); try go_wp2)
                              go_meet
                              case rel => exact ⟨_, (decide (((rd_T95 l0 x5_1).f1) < ((rd_T95 l1 x5_1).f1))), (by first | rfl | (simp; done) | (simp [*]; done)), H', ⟨by have := HK1.out; have := HJ2.out; first | omega | exact Nat.le_refl _⟩, by repeat (first | exact Drawn0.refl _ | apply Drawn0.step)⟩
                            · rw [if_neg c22] at H
                              exact absurd H (by simp)
                          · rw [if_neg c21] at H
                            exact absurd H (by simp)
                        · rw [if_neg c20] at H
                          exact absurd H (by simp)
                      · rw [if_neg c19] at H
                        have c19b0 : (t120 == 2) = false := beq_eq_false_iff_ne.mpr c19
                        have c19b1 : (t120 != 2) = true := bne_iff_ne.mpr c19
                        have H' := Aside0.mk H
                        clear H
                        go_wp2
                        repeat (go_quiet (fail); try go_wp2)
                        go_meet
                        case rel => exact ⟨_, (false), (by first | rfl | (simp; done) | (simp [*]; done)), H', ⟨by have := HK1.out; have := HJ2.out; first | omega | exact Nat.le_refl _⟩, by repeat (first | exact Drawn0.refl _ | apply Drawn0.step)⟩
                    · rw [if_neg c18] at H
                      have c18b0 : (t119 == 2) = false := beq_eq_false_iff_ne.mpr c18
                      have c18b1 : (t119 != 2) = true := bne_iff_ne.mpr c18
                      have H' := Aside0.mk H
                      clear H
                      go_wp2
                      repeat (go_quiet (fail); try go_wp2)
                      go_meet
                      case rel => exact ⟨_, (false), (by first | rfl | (simp; done) | (simp [*]; done)), H', ⟨by have := HK1.out; have := HJ2.out; first | omega | exact Nat.le_refl _⟩, by repeat (first | exact Drawn0.refl _ | apply Drawn0.step)⟩
                · rw [if_neg c10] at H
                  have c10b0 : (t119 == 0) = false := beq_eq_false_iff_ne.mpr c10
                  have c10b1 : (t119 != 0) = true := bne_iff_ne.mpr c10
                  by_cases c23 : t119 = 2
                  · rw [if_pos c23] at H
                    have c23b0 : (t119 == 2) = true := beq_iff_eq.mpr c23
                    have c23b1 : (t119 != 2) = false := bne_eq_false_iff_eq.mpr c23
                    clear c23
                    by_cases c24 : t120 = 2
                    · rw [if_pos c24] at H
                      have c24b0 : (t120 == 2) = true := beq_iff_eq.mpr c24
                      have c24b1 : (t120 != 2) = false := bne_eq_false_iff_eq.mpr c24
                      clear c24
                      by_cases c25 : 0 ≤ x5_1
                      · rw [if_pos c25] at H
                        have c25b0 : decide (0 ≤ x5_1) = true := decide_eq_true c25
                        clear c25
                        by_cases c26 : x5_1 < (l0.length : Int)
                        · rw [if_pos c26] at H
                          have c26b0 : decide (x5_1 < (l0.length : Int)) = true := decide_eq_true c26
                          clear c26
                          by_cases c27 : x5_1 < (l1.length : Int)
                          · rw [if_pos c27] at H
                            have c27b0 : decide (x5_1 < (l1.length : Int)) = true := decide_eq_true c27
                            clear c27
                            have H' := Aside0.mk H
                            clear H
                            have p127 : 0 ≤ (x5_1 : Int) := of_decide_eq_true (by first | (with_reducible assumption) | assumption)
                            have q127 : x5_1 < (l0.length : Int) := of_decide_eq_true (by first | (with_reducible assumption) | assumption)
                            obtain ⟨ad127, e127, hx127_0, hx127_1⟩ := at_T95 HR0.out x5_1 p127 q127
                            cases e127
                            replace p127 := eq_true p127
                            replace q127 := eq_true q127
                            have p128 : 0 ≤ (x5_1 : Int) := of_decide_eq_true (by first | (with_reducible assumption) | assumption)
                            have q128 : x5_1 < (l1.length : Int) := of_decide_eq_true (by first | (with_reducible assumption) | assumption)
                            obtain ⟨ad128, e128, hx128_0, hx128_1⟩ := at_T95 HR1.out x5_1 p128 q128
                            cases e128
                            replace p128 := eq_true p128
                            replace q128 := eq_true q128
                            go_wp2
                            repeat (go_quiet (fail); try go_wp2)
                            go_meet
                            case rel => exact ⟨_, (decide (((rd_T95 l0 x5_1).f1) < ((rd_T95 l1 x5_1).f1))), (by first | rfl | (simp; done) | (simp [*]; done)), H', ⟨by have := HK1.out; have := HJ2.out; first | omega | exact Nat.le_refl _⟩, by repeat (first | exact Drawn0.refl _ | apply Drawn0.step)⟩
                          · rw [if_neg c27] at H
                            exact absurd H (by simp)
                        · rw [if_neg c26] at H
                          exact absurd H (by simp)
                      · rw [if_neg c25] at H
                        exact absurd H (by simp)
                    · rw [if_neg c24] at H
                      have c24b0 : (t120 == 2) = false := beq_eq_false_iff_ne.mpr c24
                      have c24b1 : (t120 != 2) = true := bne_iff_ne.mpr c24
                      have H' := Aside0.mk H
                      clear H
                      go_wp2
                      repeat (go_quiet (fail); try go_wp2)
                      go_meet
                      case rel => exact ⟨_, (false), (by first | rfl | (simp; done) | (simp [*]; done)), H', ⟨by have := HK1.out; have := HJ2.out; first | omega | exact Nat.le_refl _⟩, by repeat (first | exact Drawn0.refl _ | apply Drawn0.step)⟩
                  · rw [if_neg c23] at H
                    have c23b0 : (t119 == 2) = false := beq_eq_false_iff_ne.mpr c23
                    have c23b1 : (t119 != 2) = true := bne_iff_ne.mpr c23
                    have H' := Aside0.mk H
                    clear H
                    go_wp2
                    repeat (go_quiet (fail); try go_wp2)
                    go_meet
                    case rel => exact ⟨_, (false), (by first | rfl | (simp; done) | (simp [*]; done)), H', ⟨by have := HK1.out; have := HJ2.out; first | omega | exact Nat.le_refl _⟩, by repeat (first | exact Drawn0.refl _ | apply Drawn0.step)⟩
            case rest =>
              clear HC8
              try clear c1
              try clear p1
              try clear q1
              try clear hx1
              try clear c2
              try clear p2
              try clear c3
              try clear c4
              try clear c4b0
              try clear c5
              try clear c9
              try clear c9b0
              try clear c10
              try clear c10b0
              try clear c10b1
              try clear c11
              try clear c11b0
              try clear c11b1
              try clear c12
              try clear c12b0
              try clear p12
              try clear q12
              try clear hx12
              try clear c13
              try clear c13b0
              try clear c14
              try clear c14b0
              try clear c15
              try clear c15b0
              try clear c16
              try clear c16b0
              try clear c16b1
              try clear c17
              try clear c17b0
              try clear c17b1
              try clear c18
              try clear c18b0
              try clear c18b1
              try clear c19
              try clear c19b0
              try clear c19b1
              try clear c20
              try clear c20b0
              try clear c21
              try clear c21b0
              try clear c22
              try clear c22b0
              try clear c23
              try clear c23b0
              try clear c23b1
              try clear c24
              try clear c24b0
              try clear c24b1
              try clear c25
              try clear c25b0
              try clear c26
              try clear c26b0
              try clear c27
              try clear c27b0
              try clear hx121_0
              try clear hx121_1
              try clear hx122_0
              try clear hx122_1
              try clear hx123_0
              try clear hx123_1
              try clear hx124_0
              try clear hx124_1
              try clear hx125_0
              try clear hx125_1
              try clear hx126_0
              try clear hx126_1
              try clear hx127_0
              try clear hx127_1
              try clear hx128_0
              try clear hx128_1
              try clear p121
              try clear p122
              try clear p123
              try clear p124
              try clear p125
              try clear p126
              try clear p127
              try clear p128
              try clear p2
              try clear q121
              try clear q122
              try clear q123
              try clear q124
              try clear q125
              try clear q126
              try clear q127
              try clear q128
              obtain ⟨kq, x26_7, rfl, HA, HJ7, ⟨mc7, rfl⟩⟩ := hcut
              cases kq with
              | zero => exact absurd HA.out (by simp [spec_l6Compare.j2])
              | succ kj7 =>
                have H := HA.out
                clear HA
                simp only [spec_l6Compare.j2] at H
                by_cases c28 : x26_7 = true
                · subst c28
                  have H1 : (some (-1)) = some r := by rw [if_pos rfl] at H; exact H
                  clear H
                  have H := H1
                  clear H1
                  obtain rfl := Option.some.inj H
                  go_wp2
                  repeat (go_quiet (fail); try go_wp2)
                  go_ret
                  exact ⟨by first | rfl | (simp; done) | (simp [*]; done), by repeat (first | exact Drawn0.refl _ | apply Drawn0.step)⟩
                · replace c28 := Bool.eq_false_iff.mpr c28
                  subst c28
                  have H1 : (if t119 > t120 then (some 1) else (if t119 = 0 then (if 0 ≤ x5_1 then (if x5_1 < (l0.length : Int) then (if x5_1 < (l1.length : Int) then (if (Op.bytesLess (((rd_T95 l1 x5_1).f0).toList) (((rd_T95 l0 x5_1).f0).toList)) = true then (some 1) else (if t119 = 2 then (if ((rd_T95 l0 x5_1).f1) > ((rd_T95 l1 x5_1).f1) then (some 1) else (spec_l6Compare.l0 kj7 l0 l1 (wrap64 (x5_1 + 1)))) else (spec_l6Compare.l0 kj7 l0 l1 (wrap64 (x5_1 + 1))))) else (none)) else (none)) else (none)) else (if t119 = 2 then (if 0 ≤ x5_1 then (if x5_1 < (l0.length : Int) then (if x5_1 < (l1.length : Int) then (if ((rd_T95 l0 x5_1).f1) > ((rd_T95 l1 x5_1).f1) then (some 1) else (spec_l6Compare.l0 kj7 l0 l1 (wrap64 (x5_1 + 1)))) else (none)) else (none)) else (none)) else (spec_l6Compare.l0 kj7 l0 l1 (wrap64 (x5_1 + 1)))))) = some r := by rw [if_neg (show ¬ (false = true) by decide)] at H; exact H
                  clear H
                  have H := H1
                  clear H1
                  by_cases c29 : t119 > t120
                  · rw [if_pos c29] at H
                    have c29b0 : decide (t120 < t119) = true := decide_eq_true c29
                    clear c29
                    obtain rfl := Option.some.inj H
                    go_wp2
                    repeat (go_quiet (fail); try go_wp2)
                    go_ret
                    exact ⟨by first | rfl | (simp; done) | (simp [*]; done), by repeat (first | exact Drawn0.refl _ | apply Drawn0.step)⟩
                  · rw [if_neg c29] at H
                    have c29b0 : decide (t120 < t119) = false := decide_eq_false c29
                    clear c29
                    by_cases c30 : t119 = 0
                    · rw [if_pos c30] at H
                      have c30b0 : (t119 == 0) = true := beq_iff_eq.mpr c30
                      have c30b1 : (t119 != 0) = false := bne_eq_false_iff_eq.mpr c30
                      clear c30
                      by_cases c31 : 0 ≤ x5_1
                      · rw [if_pos c31] at H
                        have c31b0 : decide (0 ≤ x5_1) = true := decide_eq_true c31
                        clear c31
                        by_cases c32 : x5_1 < (l0.length : Int)
                        · rw [if_pos c32] at H
                          have c32b0 : decide (x5_1 < (l0.length : Int)) = true := decide_eq_true c32
                          clear c32
                          by_cases c33 : x5_1 < (l1.length : Int)
                          · rw [if_pos c33] at H
                            have c33b0 : decide (x5_1 < (l1.length : Int)) = true := decide_eq_true c33
                            clear c33
                            by_cases c34 : (Op.bytesLess (((rd_T95 l1 x5_1).f0).toList) (((rd_T95 l0 x5_1).f0).toList)) = true
                            · rw [if_pos c34] at H
                              have c34b0 : (Op.bytesLess (((rd_T95 l1 x5_1).f0).toList) (((rd_T95 l0 x5_1).f0).toList)) = true := c34
                              have c34b0l1 := leq_l1 c34b0
                              have c34b0l2 := leq_l2 c34b0
                              clear c34
                              obtain rfl := Option.some.inj H
                              have p129 : 0 ≤ (x5_1 : Int) := of_decide_eq_true (by first | (with_reducible assumption) | assumption)
                              have q129 : x5_1 < (l0.length : Int) := of_decide_eq_true (by first | (with_reducible assumption) | assumption)
                              obtain ⟨ad129, e129, hx129_0, hx129_1⟩ := at_T95 HR0.out x5_1 p129 q129
                              cases e129
                              replace p129 := eq_true p129
                              replace q129 := eq_true q129
                              have p130 : 0 ≤ (x5_1 : Int) := of_decide_eq_true (by first | (with_reducible assumption) | assumption)
                              have q130 : x5_1 < (l1.length : Int) := of_decide_eq_true (by first | (with_reducible assumption) | assumption)
                              obtain ⟨ad130, e130, hx130_0, hx130_1⟩ := at_T95 HR1.out x5_1 p130 q130
                              cases e130
                              replace p130 := eq_true p130
                              replace q130 := eq_true q130
                              go_wp2
                              repeat (go_quiet (fail); try go_wp2)
                              go_ret
                              exact ⟨by first | rfl | (simp; done) | (simp [*]; done), by repeat (first | exact Drawn0.refl _ | apply Drawn0.step)⟩
                            · rw [if_neg c34] at H
                              have c34b0 : (Op.bytesLess (((rd_T95 l1 x5_1).f0).toList) (((rd_T95 l0 x5_1).f0).toList)) = false := by simpa using c34
                              have c34b0l3 := leq_l3 c34b0
                              clear c34
                              by_cases c35 : t119 = 2
                              · rw [if_pos c35] at H
                                have c35b0 : (t119 == 2) = true := beq_iff_eq.mpr c35
                                have c35b1 : (t119 != 2) = false := bne_eq_false_iff_eq.mpr c35
                                clear c35
                                by_cases c36 : ((rd_T95 l0 x5_1).f1) > ((rd_T95 l1 x5_1).f1)
                                · rw [if_pos c36] at H
                                  have c36b0 : decide (((rd_T95 l1 x5_1).f1) < ((rd_T95 l0 x5_1).f1)) = true := decide_eq_true c36
                                  clear c36
                                  obtain rfl := Option.some.inj H
                                  have p129 : 0 ≤ (x5_1 : Int) := of_decide_eq_true (by first | (with_reducible assumption) | assumption)
                                  have q129 : x5_1 < (l0.length : Int) := of_decide_eq_true (by first | (with_reducible assumption) | assumption)
                                  obtain ⟨ad129, e129, hx129_0, hx129_1⟩ := at_T95 HR0.out x5_1 p129 q129
                                  cases e129
                                  replace p129 := eq_true p129
                                  replace q129 := eq_true q129
                                  have p130 : 0 ≤ (x5_1 : Int) := of_decide_eq_true (by first | (with_reducible assumption) | assumption)
                                  have q130 : x5_1 < (l1.length : Int) := of_decide_eq_true (by first | (with_reducible assumption) | assumption)
                                  obtain ⟨ad130, e130, hx130_0, hx130_1⟩ := at_T95 HR1.out x5_1 p130 q130
                                  cases e130
                                  replace p130 := eq_true p130
                                  replace q130 := eq_true q130
                                  have p131 : 0 ≤ (x5_1 : Int) := of_decide_eq_true (by first | (with_reducible assumption) | assumption)
                                  have q131 : x5_1 < (l0.length : Int) := of_decide_eq_true (by first | (with_reducible assumption) | assumption)
                                  obtain ⟨ad131, e131, hx131_0, hx131_1⟩ := at_T95 HR0.out x5_1 p131 q131
                                  obtain rfl : ad129 = ad131 := (by injection e131)
                                  replace p131 := eq_true p131
                                  replace q131 := eq_true q131
                                  have p132 : 0 ≤ (x5_1 : Int) := of_decide_eq_true (by first | (with_reducible assumption) | assumption)
                                  have q132 : x5_1 < (l1.length : Int) := of_decide_eq_true (by first | (with_reducible assumption) | assumption)
                                  obtain ⟨ad132, e132, hx132_0, hx132_1⟩ := at_T95 HR1.out x5_1 p132 q132
                                  obtain rfl : ad130 = ad132 := (by injection e132)
                                  replace p132 := eq_true p132
                                  replace q132 := eq_true q132
                                  go_wp2
                                  repeat (go_quiet (fail); try go_wp2)
                                  go_ret
                                  exact ⟨by first | rfl | (simp; done) | (simp [*]; done), by repeat (first | exact Drawn0.refl _ | apply Drawn0.step)⟩
                                · rw [if_neg c36] at H
                                  have c36b0 : decide (((rd_T95 l1 x5_1).f1) < ((rd_T95 l0 x5_1).f1)) = false := decide_eq_false c36
                                  clear c36
                                  have H' := Aside0.mk H
                                  clear H
                                  have p129 : 0 ≤ (x5_1 : Int) := of_decide_eq_true (by first | (with_reducible assumption) | assumption)
                                  have q129 : x5_1 < (l0.length : Int) := of_decide_eq_true (by first | (with_reducible assumption) | assumption)
                                  obtain ⟨ad129, e129, hx129_0, hx129_1⟩ := at_T95 HR0.out x5_1 p129 q129
                                  cases e129
                                  replace p129 := eq_true p129
                                  replace q129 := eq_true q129
                                  have p130 : 0 ≤ (x5_1 : Int) := of_decide_eq_true (by first | (with_reducible assumption) | assumption)
                                  have q130 : x5_1 < (l1.length : Int) := of_decide_eq_true (by first | (with_reducible assumption) | assumption)
                                  obtain ⟨ad130, e130, hx130_0, hx130_1⟩ := at_T95 HR1.out x5_1 p130 q130
                                  cases e130
                                  replace p130 := eq_true p130
                                  replace q130 := eq_true q130
                                  have p131 : 0 ≤ (x5_1 : Int) := of_decide_eq_true (by first | (with_reducible assumption) | assumption)
                                  have q131 : x5_1 < (l0.length : Int) := of_decide_eq_true (by first | (with_reducible assumption) | assumption)
                                  obtain ⟨ad131, e131, hx131_0, hx131_1⟩ := at_T95 HR0.out x5_1 p131 q131
                                  obtain rfl : ad129 = ad131 := (by injection e131)
                                  replace p131 := eq_true p131
                                  replace q131 := eq_true q131
                                  have p132 : 0 ≤ (x5_1 : Int) := of_decide_eq_true (by first | (with_reducible assumption) | assumption)
                                  have q132 : x5_1 < (l1.length : Int) := of_decide_eq_true (by first | (with_reducible assumption) | assumption)
                                  obtain ⟨ad132, e132, hx132_0, hx132_1⟩ := at_T95 HR1.out x5_1 p132 q132
                                  obtain rfl : ad130 = ad132 := (by injection e132)
                                  replace p132 := eq_true p132
                                  replace q132 := eq_true q132
                                  go_wp2
                                  repeat (go_quiet (fail); try go_wp2)
                                  go_roundg kj7
                                  case measure => have := HK1.out; have := HJ2.out; have := HJ7.out; omega
                                  case rel => exact ⟨(wrap64 (x5_1 + 1)), (by first | rfl | (simp; done) | (simp [*]; done)), H', ⟨by have := HK1.out; have := HJ2.out; have := HJ7.out; omega⟩, by repeat (first | exact Drawn0.refl _ | apply Drawn0.step)⟩
                              · rw [if_neg c35] at H
                                have c35b0 : (t119 == 2) = false := beq_eq_false_iff_ne.mpr c35
                                have c35b1 : (t119 != 2) = true := bne_iff_ne.mpr c35
                                have H' := Aside0.mk H
                                clear H
                                have p129 : 0 ≤ (x5_1 : Int) := of_decide_eq_true (by first | (with_reducible assumption) | assumption)
                                have q129 : x5_1 < (l0.length : Int) := of_decide_eq_true (by first | (with_reducible assumption) | assumption)
                                obtain ⟨ad129, e129, hx129_0, hx129_1⟩ := at_T95 HR0.out x5_1 p129 q129
                                cases e129
                                replace p129 := eq_true p129
                                replace q129 := eq_true q129
                                have p130 : 0 ≤ (x5_1 : Int) := of_decide_eq_true (by first | (with_reducible assumption) | assumption)
                                have q130 : x5_1 < (l1.length : Int) := of_decide_eq_true (by first | (with_reducible assumption) | assumption)
                                obtain ⟨ad130, e130, hx130_0, hx130_1⟩ := at_T95 HR1.out x5_1 p130 q130
                                cases e130
                                replace p130 := eq_true p130
                                replace q130 := eq_true q130
                                go_wp2
                                repeat (go_quiet (fail); try go_wp2)
                                go_roundg kj7
                                case measure => have := HK1.out; have := HJ2.out; have := HJ7.out; omega
                                case rel => exact ⟨(wrap64 (x5_1 + 1)), (by first | rfl | (simp; done) | (simp [*]; done)), H', ⟨by have := HK1.out; have := HJ2.out; have := HJ7.out; omega⟩, by repeat (first | exact Drawn0.refl _ | apply Drawn0.step)⟩
                          · rw [if_neg c33] at H
                            exact absurd H (by simp)
                        · rw [if_neg c32] at H
                          exact absurd H (by simp)
                      · rw [if_neg c31] at H
                        exact absurd H (by simp)
                    · rw [if_neg c30] at H
                      have c30b0 : (t119 == 0) = false := beq_eq_false_iff_ne.mpr c30
                      have c30b1 : (t119 != 0) = true := bne_iff_ne.mpr c30
                      by_cases c37 : t119 = 2
                      · rw [if_pos c37] at H
                        have c37b0 : (t119 == 2) = true := beq_iff_eq.mpr c37
                        have c37b1 : (t119 != 2) = false := bne_eq_false_iff_eq.mpr c37
                        clear c37
                        by_cases c38 : 0 ≤ x5_1
                        · rw [if_pos c38] at H
                          have c38b0 : decide (0 ≤ x5_1) = true := decide_eq_true c38
                          clear c38
                          by_cases c39 : x5_1 < (l0.length : Int)
                          · rw [if_pos c39] at H
                            have c39b0 : decide (x5_1 < (l0.length : Int)) = true := decide_eq_true c39
                            clear c39
                            by_cases c40 : x5_1 < (l1.length : Int)
                            · rw [if_pos c40] at H
                              have c40b0 : decide (x5_1 < (l1.length : Int)) = true := decide_eq_true c40
                              clear c40
                              by_cases c41 : ((rd_T95 l0 x5_1).f1) > ((rd_T95 l1 x5_1).f1)
                              · rw [if_pos c41] at H
                                have c41b0 : decide (((rd_T95 l1 x5_1).f1) < ((rd_T95 l0 x5_1).f1)) = true := decide_eq_true c41
                                clear c41
                                obtain rfl := Option.some.inj H
                                have p133 : 0 ≤ (x5_1 : Int) := of_decide_eq_true (by first | (with_reducible assumption) | assumption)
                                have q133 : x5_1 < (l0.length : Int) := of_decide_eq_true (by first | (with_reducible assumption) | assumption)
                                obtain ⟨ad133, e133, hx133_0, hx133_1⟩ := at_T95 HR0.out x5_1 p133 q133
                                cases e133
                                replace p133 := eq_true p133
                                replace q133 := eq_true q133
                                have p134 : 0 ≤ (x5_1 : Int) := of_decide_eq_true (by first | (with_reducible assumption) | assumption)
                                have q134 : x5_1 < (l1.length : Int) := of_decide_eq_true (by first | (with_reducible assumption) | assumption)
                                obtain ⟨ad134, e134, hx134_0, hx134_1⟩ := at_T95 HR1.out x5_1 p134 q134
                                cases e134
                                replace p134 := eq_true p134
                                replace q134 := eq_true q134
                                go_wp2
                                repeat (go_quiet (fail); try go_wp2)
                                go_ret
                                exact ⟨by first | rfl | (simp; done) | (simp [*]; done), by repeat (first | exact Drawn0.refl _ | apply Drawn0.step)⟩
                              · rw [if_neg c41] at H
                                have c41b0 : decide (((rd_T95 l1 x5_1).f1) < ((rd_T95 l0 x5_1).f1)) = false := decide_eq_false c41
                                clear c41
                                have H' := Aside0.mk H
                                clear H
                                have p133 : 0 ≤ (x5_1 : Int) := of_decide_eq_true (by first | (with_reducible assumption) | assumption)
                                have q133 : x5_1 < (l0.length : Int) := of_decide_eq_true (by first | (with_reducible assumption) | assumption)
                                obtain ⟨ad133, e133, hx133_0, hx133_1⟩ := at_T95 HR0.out x5_1 p133 q133
                                cases e133
                                replace p133 := eq_true p133
                                replace q133 := eq_true q133
                                have p134 : 0 ≤ (x5_1 : Int) := of_decide_eq_true (by first | (with_reducible assumption) | assumption)
                                have q134 : x5_1 < (l1.length : Int) := of_decide_eq_true (by first | (with_reducible assumption) | assumption)
                                obtain ⟨ad134, e134, hx134_0, hx134_1⟩ := at_T95 HR1.out x5_1 p134 q134
                                cases e134
                                replace p134 := eq_true p134
                                replace q134 := eq_true q134
                                go_wp2
                                repeat (go_quiet (fail); try go_wp2)
                                go_roundg kj7
                                case measure => have := HK1.out; have := HJ2.out; have := HJ7.out; omega
                                case rel => exact ⟨(wrap64 (x5_1 + 1)), (by first | rfl | (simp; done) | (simp [*]; done)), H', ⟨by have := HK1.out; have := HJ2.out; have := HJ7.out; omega⟩, by repeat (first | exact Drawn0.refl _ | apply Drawn0.step)⟩
                            · rw [if_neg c40] at H
                              exact absurd H (by simp)
                          · rw [if_neg c39] at H
                            exact absurd H (by simp)
                        · rw [if_neg c38] at H
                          exact absurd H (by simp)
                      · rw [if_neg c37] at H
                        have c37b0 : (t119 == 2) = false := beq_eq_false_iff_ne.mpr c37
                        have c37b1 : (t119 != 2) = true := bne_iff_ne.mpr c37
                        have H' := Aside0.mk H
                        clear H
                        go_wp2
                        repeat (go_quiet (fail); try go_wp2)
                        go_roundg kj7
                        case measure => have := HK1.out; have := HJ2.out; have := HJ7.out; omega
                        case rel => exact ⟨(wrap64 (x5_1 + 1)), (by first | rfl | (simp; done) | (simp [*]; done)), H', ⟨by have := HK1.out; have := HJ2.out; have := HJ7.out; omega⟩, by repeat (first | exact Drawn0.refl _ | apply Drawn0.step)⟩
          · replace c5 := Bool.eq_false_iff.mpr c5
            subst c5
            have H1 : (some 0) = some r := by rw [if_neg (show ¬ (false = true) by decide)] at H; exact H
            clear H
            have H := H1
            clear H1
            obtain rfl := Option.some.inj H
            go_wp2
            repeat (go_quiet (fail); try go_wp2)
            go_ret
            exact ⟨by first | rfl | (simp; done) | (simp [*]; done), by repeat (first | exact Drawn0.refl _ | apply Drawn0.step)⟩

end Go.Proofs.YtklinldidfdnjaaDoor.PFnExactCompareVersions
