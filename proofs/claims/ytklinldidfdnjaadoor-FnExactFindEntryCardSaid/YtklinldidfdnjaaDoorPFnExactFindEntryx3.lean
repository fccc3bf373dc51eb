-- Laid by a program of this session: a turned copy of the kit's print, with contracts by hand beside.
import Derived.Test.YtklinldidfdnjaaDoorPFnExactFindEntryx0
namespace Go.Proofs.YtklinldidfdnjaaDoor.PFnExactFindEntry
open Go.RowKit Go.Proofs.YtklinldidfdnjaaDoorW.PrintWords Go.Proofs.YtklinldidfdnjaaDoorW.PrintLast Go.Proofs.YtklinldidfdnjaaDoorW.PrintMore
attribute [local go_sem] max2_int min2_int max_two min_two max_three min_three max_four min_four   -- for this text's walks alone
set_option linter.unusedVariables false
set_option linter.unusedSimpArgs false

/-! ### spec_l10Up: function 60 -/
def spec_l10Up.l0 : Nat → ByteArray → Int → Option (ByteArray)
  | 0, _, _ => none
  | k + 1, x0, x3 => if x3 ≥ 0 then (if 0 ≤ x3 then (if x3 < (x0.size : Int) then (if (bt x0 x3) = 47 then (if x3 ≤ (x0.size : Int) then (some (x0.extract 0 (x3 : Int).toNat)) else (none)) else (spec_l10Up.l0 k x0 (wrap64 (x3 - 1)))) else (none)) else (none)) else (some (⟨#[]⟩ : ByteArray))
def spec_l10Up.f (k : Nat) (a0 : ByteArray) : Option (ByteArray) := spec_l10Up.l0 k a0 (wrap64 ((a0.size : Int) - 1))
theorem spec_l10Up.mono_l : ∀ k, (∀ y0 y1, LeO (spec_l10Up.l0 k y0 y1) (spec_l10Up.l0 (k + 1) y0 y1))
  | 0 => fun _ _ r h => by simp [spec_l10Up.l0] at h
  | k + 1 => by
    have ih0 := spec_l10Up.mono_l k
    · intro y0 y1
      unfold spec_l10Up.l0
      repeat' first
      | (with_reducible exact ih0 _ _)
      | (with_reducible exact LeO.refl _)
      | (with_reducible exact LeO.none _)
      | (with_reducible refine LeO.ite ?_ ?_)
      | (with_reducible refine LeO.bind ?_ (fun _ => ?_))
      | exact ih0 _ _
      | exact LeO.none _
      | refine LeO.ite ?_ ?_
      | refine LeO.bind ?_ (fun _ => ?_)
theorem spec_l10Up.mono : ∀ a0 k, LeO (spec_l10Up.f k a0) (spec_l10Up.f (k + 1) a0) := by
  intro a0 k
  have ih0 := spec_l10Up.mono_l k
  unfold spec_l10Up.f
  repeat' first
      | (with_reducible exact ih0 _ _)
      | (with_reducible exact LeO.refl _)
      | (with_reducible exact LeO.none _)
      | (with_reducible refine LeO.ite ?_ ?_)
      | (with_reducible refine LeO.bind ?_ (fun _ => ?_))
      | exact ih0 _ _
      | exact LeO.none _
      | refine LeO.ite ?_ ?_
      | refine LeO.bind ?_ (fun _ => ?_)
set_option maxHeartbeats 8000000 in
set_option maxRecDepth 100000 in
theorem spec_l10Up.calls (k : Nat) (a0 : ByteArray) (r : ByteArray) (w : World) (h : spec_l10Up.f k a0 = some r) :
    Calls Tryd.prog 60 #[.string a0] w fun e w' => e = .returned (.string r) ∧ Drawn0 w w' := by
  have H : (spec_l10Up.l0 k a0 (wrap64 ((a0.size : Int) - 1))) = some r := h
  clear h
  have H' := Aside0.mk H
  clear H
  go_enter Tryd.func60, Tryd.ntmps60
  go_wp2
  go_loopg [3] k (fun kq v3 w' => ∃ (x3_1 : Int), v3 = .int .i64 x3_1 ∧ Aside0 (spec_l10Up.l0 kq a0 x3_1 = some r) ∧ Aside0 (kq ≤ k) ∧ Drawn0 w w')
  case atStart => exact ⟨(wrap64 ((a0.size : Int) - 1)), (by first | rfl | (simp; done) | (simp [*]; done) | (simp; (generalize ByteArray.toList _ = q; cases q <;> rfl))), H', ⟨Nat.le_refl _⟩, by repeat (first | exact Drawn0.refl _ | apply Drawn0.step)⟩
  case round =>
    clear H'
    obtain ⟨x3_1, rfl, HA, HK1, ⟨m1, rfl⟩⟩ := hrel
    cases gk with
    | zero => exact absurd HA.out (by simp [spec_l10Up.l0])
    | succ k1 =>
      have H := HA.out
      clear HA
      simp only [spec_l10Up.l0] at H
      by_cases c2 : x3_1 ≥ 0
      · rw [if_pos c2] at H
        have c2b0 : decide (0 ≤ x3_1) = true := decide_eq_true c2
        clear c2
        by_cases c3 : 0 ≤ x3_1
        · rw [if_pos c3] at H
          have c3b0 : decide (0 ≤ x3_1) = true := decide_eq_true c3
          clear c3
          by_cases c4 : x3_1 < (a0.size : Int)
          · rw [if_pos c4] at H
            have c4b0 : decide (x3_1 < (a0.size : Int)) = true := decide_eq_true c4
            clear c4
            by_cases c6 : (bt a0 x3_1) = 47
            · rw [if_pos c6] at H
              have c6b0 : ((bt a0 x3_1) == 47) = true := beq_iff_eq.mpr c6
              have c6b1 : ((bt a0 x3_1) != 47) = false := bne_eq_false_iff_eq.mpr c6
              clear c6
              have c7b0 := eq_true (of_decide_eq_true (by first | (with_reducible assumption) | assumption) : 0 ≤ x3_1)
              by_cases c8 : x3_1 ≤ (a0.size : Int)
              · rw [if_pos c8] at H
                have c8b0 := eq_true c8
                have c8b1 : decide (x3_1 ≤ (a0.size : Int)) = true := decide_eq_true c8
                clear c8
                obtain rfl := Option.some.inj H
                have p5 : 0 ≤ (x3_1 : Int) := of_decide_eq_true (by first | (with_reducible assumption) | assumption)
                have q5 : x3_1 < (a0.size : Int) := of_decide_eq_true (by first | (with_reducible assumption) | assumption)
                have hx5 := bt_at a0 x3_1
                replace p5 := eq_true p5
                replace q5 := eq_true q5
                go_wp2
                go_ret
                exact ⟨by first | rfl | (simp; done) | (simp [*]; done), by repeat (first | exact Drawn0.refl _ | apply Drawn0.step)⟩
              · rw [if_neg c8] at H
                exact absurd H (by simp)
            · rw [if_neg c6] at H
              have c6b0 : ((bt a0 x3_1) == 47) = false := beq_eq_false_iff_ne.mpr c6
              have c6b1 : ((bt a0 x3_1) != 47) = true := bne_iff_ne.mpr c6
              have H' := Aside0.mk H
              clear H
              have p5 : 0 ≤ (x3_1 : Int) := of_decide_eq_true (by first | (with_reducible assumption) | assumption)
              have q5 : x3_1 < (a0.size : Int) := of_decide_eq_true (by first | (with_reducible assumption) | assumption)
              have hx5 := bt_at a0 x3_1
              replace p5 := eq_true p5
              replace q5 := eq_true q5
              go_wp2
              go_roundg k1
              case measure => have := HK1.out; omega
              case rel => exact ⟨(wrap64 (x3_1 - 1)), (by first | rfl | (simp; done) | (simp [*]; done) | (simp; (generalize ByteArray.toList _ = q; cases q <;> rfl))), H', ⟨by have := HK1.out; omega⟩, by repeat (first | exact Drawn0.refl _ | apply Drawn0.step)⟩
          · rw [if_neg c4] at H
            exact absurd H (by simp)
        · rw [if_neg c3] at H
          exact absurd H (by simp)
      · rw [if_neg c2] at H
        have c2b0 : decide (0 ≤ x3_1) = false := decide_eq_false c2
        clear c2
        obtain rfl := Option.some.inj H
        go_wp2
        go_ret
        exact ⟨by first | rfl | (simp; done) | (simp [*]; done), by repeat (first | exact Drawn0.refl _ | apply Drawn0.step)⟩

/-! ### spec_l10Find: function 66 -/
theorem leq_tri : ∀ a b : List UInt8, (Op.bytesLess a b = true ∧ Op.bytesLess b a = false ∧ (b == a) = false) ∨ (a = b ∧ Op.bytesLess a b = false) ∨ (Op.bytesLess b a = true ∧ Op.bytesLess a b = false ∧ (b == a) = false)
  | [], [] => Or.inr (Or.inl ⟨rfl, rfl⟩)
  | [], y :: b => Or.inl ⟨rfl, rfl, rfl⟩
  | x :: a, [] => Or.inr (Or.inr ⟨rfl, rfl, rfl⟩)
  | x :: a, y :: b => by
    have hlt : ∀ p q : UInt8, p < q ↔ p.toNat < q.toNat := fun p q => UInt8.lt_iff_toNat_lt
    have heq : ∀ p q : UInt8, p = q ↔ p.toNat = q.toNat := fun p q => ⟨fun h => by rw [h], fun h => UInt8.toNat_inj.1 h⟩
    unfold Op.bytesLess
    by_cases h1 : x < y
    · have h2 : ¬ y < x := by rw [hlt] at *; omega
      have h3 : ¬ x = y := by rw [hlt, heq] at *; omega
      exact Or.inl ⟨by simp [h1], by simp [h2, Ne.symm h3], by simp [Ne.symm h3]⟩
    · by_cases h2 : y < x
      · have h3 : ¬ x = y := by rw [hlt, heq] at *; omega
        exact Or.inr (Or.inr ⟨by simp [h2], by simp [h1, h3], by simp [Ne.symm h3]⟩)
      · have h3 : x = y := by rw [hlt] at *; rw [heq]; omega
        subst h3
        rcases leq_tri a b with ⟨p, q, r⟩ | ⟨p, q⟩ | ⟨p, q, r⟩
        · exact Or.inl ⟨by simp [p], by simp [h1, q], by simpa using r⟩
        · exact Or.inr (Or.inl ⟨by rw [p], by simp [h1, q]⟩)
        · exact Or.inr (Or.inr ⟨by simp [p], by simp [h1, q], by simpa using r⟩)
theorem leq_l1 {a b : List UInt8} (h : Op.bytesLess a b = true) : Op.bytesLess b a = false := by
  rcases leq_tri a b with ⟨p, q, r⟩ | ⟨p, q⟩ | ⟨p, q, r⟩
  · exact q
  · rw [h] at q; cases q
  · rw [h] at q; cases q
theorem leq_l2 {a b : List UInt8} (h : Op.bytesLess a b = true) : (b == a) = false := by
  rcases leq_tri a b with ⟨p, q, r⟩ | ⟨p, q⟩ | ⟨p, q, r⟩
  · exact r
  · rw [h] at q; cases q
  · exact r
theorem leq_l3 {a b : List UInt8} (h : Op.bytesLess a b = false) : (Op.bytesLess b a || b == a) = true := by
  rcases leq_tri a b with ⟨p, q, r⟩ | ⟨p, q⟩ | ⟨p, q, r⟩
  · rw [h] at p; cases p
  · rw [p]; simp
  · rw [p]; rfl
def spec_l10Find.l0 : Nat → List (S79) → ByteArray → Int → Int → Option (Int)
  | 0, _, _, _, _ => none
  | k + 1, x0, x1, x5, x6 => if x5 < x6 then (if 0 ≤ (wrap64 (Int.tdiv (wrap64 (x5 + x6)) 2)) then (if (wrap64 (Int.tdiv (wrap64 (x5 + x6)) 2)) < (x0.length : Int) then (if (Op.bytesLess (((rd_T79 x0 (wrap64 (Int.tdiv (wrap64 (x5 + x6)) 2))).f0).toList) x1.toList) = true then (spec_l10Find.l0 k x0 x1 (wrap64 ((wrap64 (Int.tdiv (wrap64 (x5 + x6)) 2)) + 1)) x6) else (spec_l10Find.l0 k x0 x1 x5 (wrap64 (Int.tdiv (wrap64 (x5 + x6)) 2)))) else (none)) else (none)) else (if x5 < (x0.length : Int) then (if 0 ≤ x5 then (if ((rd_T79 x0 x5).f0).toList = x1.toList then (some x5) else (some (-1))) else (none)) else (some (-1)))
def spec_l10Find.f (k : Nat) (l0 : List (S79)) (a1 : ByteArray) : Option (Int) := spec_l10Find.l0 k l0 a1 0 (l0.length : Int)
theorem spec_l10Find.mono_l : ∀ k, (∀ y0 y1 y2 y3, LeO (spec_l10Find.l0 k y0 y1 y2 y3) (spec_l10Find.l0 (k + 1) y0 y1 y2 y3))
  | 0 => fun _ _ _ _ r h => by simp [spec_l10Find.l0] at h
  | k + 1 => by
    have ih0 := spec_l10Find.mono_l k
    · intro y0 y1 y2 y3
      unfold spec_l10Find.l0
      repeat' first
      | (with_reducible exact ih0 _ _ _ _)
      | (with_reducible exact LeO.refl _)
      | (with_reducible exact LeO.none _)
      | (with_reducible refine LeO.ite ?_ ?_)
      | (with_reducible refine LeO.bind ?_ (fun _ => ?_))
      | exact ih0 _ _ _ _
      | exact LeO.none _
      | refine LeO.ite ?_ ?_
      | refine LeO.bind ?_ (fun _ => ?_)
theorem spec_l10Find.mono : ∀ a0 a1 k, LeO (spec_l10Find.f k a0 a1) (spec_l10Find.f (k + 1) a0 a1) := by
  intro a0 a1 k
  have ih0 := spec_l10Find.mono_l k
  unfold spec_l10Find.f
  repeat' first
      | (with_reducible exact ih0 _ _ _ _)
      | (with_reducible exact LeO.refl _)
      | (with_reducible exact LeO.none _)
      | (with_reducible refine LeO.ite ?_ ?_)
      | (with_reducible refine LeO.bind ?_ (fun _ => ?_))
      | exact ih0 _ _ _ _
      | exact LeO.none _
      | refine LeO.ite ?_ ?_
      | refine LeO.bind ?_ (fun _ => ?_)
set_option maxHeartbeats 8000000 in
set_option maxRecDepth 100000 in
theorem spec_l10Find.calls (k : Nat) (A0 : Option Addr) (c0 : Nat) (l0 : List (S79)) (a1 : ByteArray) (r : Int) (w : World) (hr0 : Kd.C k79 w A0 l0.length l0) (hc0 : l0.length ≤ c0) (h : spec_l10Find.f k l0 a1 = some r) :
    Calls Tryd.prog 66 #[.slice A0 l0.length c0, .string a1] w fun e w' => e = .returned (.int .i64 r) ∧ Drawn0 w w' := by
  have HR0 := Aside0.mk hr0
  have HC0 := Aside0.mk hc0
  clear hr0 hc0
  have H : (spec_l10Find.l0 k l0 a1 0 (l0.length : Int)) = some r := h
  clear h
  have H' := Aside0.mk H
  clear H
  go_enter Tryd.func66, Tryd.ntmps66
  go_wp2
  go_loopg [5, 6] k (fun kq v5 v6 w' => ∃ (x5_1 : Int) (x6_1 : Int), v5 = .int .i64 x5_1 ∧ v6 = .int .i64 x6_1 ∧ Aside0 (spec_l10Find.l0 kq l0 a1 x5_1 x6_1 = some r) ∧ Aside0 (kq ≤ k) ∧ Drawn0 w w')
  case atStart => exact ⟨(0), ((l0.length : Int)), (by first | rfl | (simp; done) | (simp [*]; done) | (simp; (generalize ByteArray.toList _ = q; cases q <;> rfl))), (by first | rfl | (simp; done) | (simp [*]; done) | (simp; (generalize ByteArray.toList _ = q; cases q <;> rfl))), H', ⟨Nat.le_refl _⟩, by repeat (first | exact Drawn0.refl _ | apply Drawn0.step)⟩
  case round =>
    clear H'
    try clear p2
    obtain ⟨x5_1, x6_1, rfl, rfl, HA, HK1, ⟨m1, rfl⟩⟩ := hrel
    cases gk with
    | zero => exact absurd HA.out (by simp [spec_l10Find.l0])
    | succ k1 =>
      have H := HA.out
      clear HA
      simp only [spec_l10Find.l0] at H
      by_cases c3 : x5_1 < x6_1
      · rw [if_pos c3] at H
        have c3b0 : decide (x5_1 < x6_1) = true := decide_eq_true c3
        clear c3
        obtain ⟨ji4, hji4⟩ : ∃ j_ : Int, (wrap64 (Int.tdiv (wrap64 (x5_1 + x6_1)) 2)) = j_ := ⟨_, rfl⟩
        replace H : (if 0 ≤ (ji4) then (if (ji4) < (l0.length : Int) then (if (Op.bytesLess (((rd_T79 l0 (ji4)).f0).toList) a1.toList) = true then (spec_l10Find.l0 k1 l0 a1 (wrap64 ((ji4) + 1)) x6_1) else (spec_l10Find.l0 k1 l0 a1 x5_1 ji4)) else (none)) else (none)) = some r := by first | (rw [hji4] at H; exact H) | (simp only [hji4] at H ⊢; exact H)
        have hji4w : (IntKind.i64.wrap (Int.tdiv (wrap64 (x5_1 + x6_1)) 2)) = ji4 := (i64_w _).trans hji4
        by_cases c5 : 0 ≤ (ji4)
        · rw [if_pos c5] at H
          have c5b0 : decide (0 ≤ (ji4)) = true := decide_eq_true c5
          clear c5
          by_cases c6 : (ji4) < (l0.length : Int)
          · rw [if_pos c6] at H
            have c6b0 : decide ((ji4) < (l0.length : Int)) = true := decide_eq_true c6
            clear c6
            by_cases c7 : (Op.bytesLess (((rd_T79 l0 (ji4)).f0).toList) a1.toList) = true
            · rw [if_pos c7] at H
              have c7b0 : (Op.bytesLess (((rd_T79 l0 (ji4)).f0).toList) a1.toList) = true := c7
              have c7b0l1 := leq_l1 c7b0
              have c7b0l2 := leq_l2 c7b0
              clear c7
              have H' := Aside0.mk H
              clear H
              have p135 : 0 ≤ ((ji4) : Int) := of_decide_eq_true (by first | (with_reducible assumption) | assumption)
              have q135 : (ji4) < (l0.length : Int) := of_decide_eq_true (by first | (with_reducible assumption) | assumption)
              obtain ⟨ad135, e135, hx135_0, hx135_1, hx135_2, hx135_3⟩ := at_T79 HR0.out (ji4) p135 q135
              cases e135
              replace p135 := eq_true p135
              replace q135 := eq_true q135
              go_wp2
              go_roundg k1
              case measure => have := HK1.out; omega
              case rel => exact ⟨(wrap64 ((ji4) + 1)), (x6_1), (by first | rfl | (simp; done) | (simp only [← hji4] <;> (first | rfl | simp)) | (simp [*]; done)), (by first | rfl | (simp; done) | (simp [*]; done) | (simp; (generalize ByteArray.toList _ = q; cases q <;> rfl))), (by first | exact H' | (rw [hji4]; exact H')), ⟨by have := HK1.out; omega⟩, by repeat (first | exact Drawn0.refl _ | apply Drawn0.step)⟩
            · rw [if_neg c7] at H
              have c7b0 : (Op.bytesLess (((rd_T79 l0 (ji4)).f0).toList) a1.toList) = false := by simpa using c7
              have c7b0l3 := leq_l3 c7b0
              clear c7
              have H' := Aside0.mk H
              clear H
              have p135 : 0 ≤ ((ji4) : Int) := of_decide_eq_true (by first | (with_reducible assumption) | assumption)
              have q135 : (ji4) < (l0.length : Int) := of_decide_eq_true (by first | (with_reducible assumption) | assumption)
              obtain ⟨ad135, e135, hx135_0, hx135_1, hx135_2, hx135_3⟩ := at_T79 HR0.out (ji4) p135 q135
              cases e135
              replace p135 := eq_true p135
              replace q135 := eq_true q135
              go_wp2
              go_roundg k1
              case measure => have := HK1.out; omega
              case rel => exact ⟨(x5_1), (ji4), (by first | rfl | (simp; done) | (simp [*]; done) | (simp; (generalize ByteArray.toList _ = q; cases q <;> rfl))), (by first | rfl | (simp; done) | (simp only [← hji4] <;> (first | rfl | simp)) | (simp [*]; done)), (by first | exact H' | (rw [hji4]; exact H')), ⟨by have := HK1.out; omega⟩, by repeat (first | exact Drawn0.refl _ | apply Drawn0.step)⟩
          · rw [if_neg c6] at H
            exact absurd H (by simp)
        · rw [if_neg c5] at H
          exact absurd H (by simp)
      · rw [if_neg c3] at H
        have c3b0 : decide (x5_1 < x6_1) = false := decide_eq_false c3
        clear c3
        by_cases c8 : x5_1 < (l0.length : Int)
        · rw [if_pos c8] at H
          have c8b0 : decide (x5_1 < (l0.length : Int)) = true := decide_eq_true c8
          clear c8
          by_cases c9 : 0 ≤ x5_1
          · rw [if_pos c9] at H
            have c9b0 : decide (0 ≤ x5_1) = true := decide_eq_true c9
            clear c9
            by_cases c10 : ((rd_T79 l0 x5_1).f0).toList = a1.toList
            · rw [if_pos c10] at H
              have c10b0 : (((rd_T79 l0 x5_1).f0).toList == a1.toList) = true := beq_iff_eq.mpr c10
              have c10b1 : (((rd_T79 l0 x5_1).f0).toList != a1.toList) = false := bne_eq_false_iff_eq.mpr c10
              clear c10
              obtain rfl := Option.some.inj H
              have p136 : 0 ≤ (x5_1 : Int) := of_decide_eq_true (by first | (with_reducible assumption) | assumption)
              have q136 : x5_1 < (l0.length : Int) := of_decide_eq_true (by first | (with_reducible assumption) | assumption)
              obtain ⟨ad136, e136, hx136_0, hx136_1, hx136_2, hx136_3⟩ := at_T79 HR0.out x5_1 p136 q136
              cases e136
              replace p136 := eq_true p136
              replace q136 := eq_true q136
              go_wp2
              go_ret
              exact ⟨by first | rfl | (simp; done) | (simp [*]; done), by repeat (first | exact Drawn0.refl _ | apply Drawn0.step)⟩
            · rw [if_neg c10] at H
              have c10b0 : (((rd_T79 l0 x5_1).f0).toList == a1.toList) = false := beq_eq_false_iff_ne.mpr c10
              have c10b1 : (((rd_T79 l0 x5_1).f0).toList != a1.toList) = true := bne_iff_ne.mpr c10
              obtain rfl := Option.some.inj H
              have p136 : 0 ≤ (x5_1 : Int) := of_decide_eq_true (by first | (with_reducible assumption) | assumption)
              have q136 : x5_1 < (l0.length : Int) := of_decide_eq_true (by first | (with_reducible assumption) | assumption)
              obtain ⟨ad136, e136, hx136_0, hx136_1, hx136_2, hx136_3⟩ := at_T79 HR0.out x5_1 p136 q136
              cases e136
              replace p136 := eq_true p136
              replace q136 := eq_true q136
              go_wp2
              go_ret
              exact ⟨by first | rfl | (simp; done) | (simp [*]; done), by repeat (first | exact Drawn0.refl _ | apply Drawn0.step)⟩
          · rw [if_neg c9] at H
            exact absurd H (by simp)
        · rw [if_neg c8] at H
          have c8b0 : decide (x5_1 < (l0.length : Int)) = false := decide_eq_false c8
          clear c8
          obtain rfl := Option.some.inj H
          go_wp2
          go_ret
          exact ⟨by first | rfl | (simp; done) | (simp [*]; done), by repeat (first | exact Drawn0.refl _ | apply Drawn0.step)⟩

/-! ### spec_l10Dir: function 61 -/
def spec_l10Dir.f (k : Nat) (l0 : List (S79)) (a1 : ByteArray) : Option (Bool) := (spec_l10Find.f k l0 a1).bind fun t137 => (if t137 ≥ 0 then (if 0 ≤ t137 then (if t137 < (l0.length : Int) then (some (((rd_T79 l0 t137).f1) == 1)) else (none)) else (none)) else (some false))
theorem spec_l10Dir.mono : ∀ a0 a1 k, LeO (spec_l10Dir.f k a0 a1) (spec_l10Dir.f (k + 1) a0 a1) := by
  intro a0 a1 k
  unfold spec_l10Dir.f
  repeat' first
      | (with_reducible exact spec_l10Find.mono _ _ _)
      | (with_reducible exact LeO.refl _)
      | (with_reducible exact LeO.none _)
      | (with_reducible refine LeO.ite ?_ ?_)
      | (with_reducible refine LeO.bind ?_ (fun _ => ?_))
      | exact spec_l10Find.mono _ _ _
      | exact LeO.none _
      | refine LeO.ite ?_ ?_
      | refine LeO.bind ?_ (fun _ => ?_)
set_option maxHeartbeats 8000000 in
set_option maxRecDepth 100000 in
theorem spec_l10Dir.calls (k : Nat) (A0 : Option Addr) (c0 : Nat) (l0 : List (S79)) (a1 : ByteArray) (r : Bool) (w : World) (hr0 : Kd.C k79 w A0 l0.length l0) (hc0 : l0.length ≤ c0) (h : spec_l10Dir.f k l0 a1 = some r) :
    Calls Tryd.prog 61 #[.slice A0 l0.length c0, .string a1] w fun e w' => e = .returned (.bool r) ∧ Drawn0 w w' := by
  have HR0 := Aside0.mk hr0
  have HC0 := Aside0.mk hc0
  clear hr0 hc0
  have H : ((spec_l10Find.f k l0 a1).bind fun t137 => (if t137 ≥ 0 then (if 0 ≤ t137 then (if t137 < (l0.length : Int) then (some (((rd_T79 l0 t137).f1) == 1)) else (none)) else (none)) else (some false))) = some r := h
  clear h
  replace H := Option.bind_eq_some_iff.mp H
  obtain ⟨t137, A30, H⟩ := H
  replace H : (if t137 ≥ 0 then (if 0 ≤ t137 then (if t137 < (l0.length : Int) then (some (((rd_T79 l0 t137).f1) == 1)) else (none)) else (none)) else (some false)) = some r := H
  have A3 := Aside0.mk A30
  clear A30
  by_cases c4 : t137 ≥ 0
  · rw [if_pos c4] at H
    have c4b0 : decide (0 ≤ t137) = true := decide_eq_true c4
    clear c4
    by_cases c5 : 0 ≤ t137
    · rw [if_pos c5] at H
      have c5b0 : decide (0 ≤ t137) = true := decide_eq_true c5
      clear c5
      by_cases c6 : t137 < (l0.length : Int)
      · rw [if_pos c6] at H
        have c6b0 : decide (t137 < (l0.length : Int)) = true := decide_eq_true c6
        clear c6
        obtain rfl := Option.some.inj H
        go_enter Tryd.func61, Tryd.ntmps61
        go_wp2_with (first | ((with_reducible refine gate_callee (f := 66) rfl ?_); refine goesL_ (some 8) rfl rfl Tryd.func66 (by kernel_rfl) rfl #[.slice A0 l0.length c0, .string a1] rfl (by (try simp only [List.map_toArray, List.map_cons, List.map_nil]); first | done | rfl | (simp only [List.length_drop, List.length_take]; rfl)) ?_; (with_reducible refine (spec_l10Find.calls k _ _ l0 a1 t137 _ ?side1 ?side2 A3.out).mono ?_); (case side1 => repeat (first | exact HR0.out | (with_reducible refine Kd.C_alloc ?_ _) | (with_reducible refine Kd.C_drewN ?_ _) | (with_reducible refine Kd.C_drew ?_))); (case side2 => exact HC0.out); rintro e w' ⟨rfl, ⟨nd, rfl⟩⟩; refine ⟨_, rfl, ?_⟩; have p138 : 0 ≤ (t137 : Int) := of_decide_eq_true (by first | (with_reducible assumption) | assumption); have q138 : t137 < (l0.length : Int) := of_decide_eq_true (by first | (with_reducible assumption) | assumption); obtain ⟨ad138, e138, hx138_0, hx138_1, hx138_2, hx138_3⟩ := at_T79 HR0.out t137 p138 q138; cases e138; replace p138 := eq_true p138; replace q138 := eq_true q138))
        go_ret
        exact ⟨by first | rfl | (simp; done) | (simp [*]; done), by repeat (first | exact Drawn0.refl _ | apply Drawn0.step)⟩
      · rw [if_neg c6] at H
        exact absurd H (by simp)
    · rw [if_neg c5] at H
      exact absurd H (by simp)
  · rw [if_neg c4] at H
    have c4b0 : decide (0 ≤ t137) = false := decide_eq_false c4
    clear c4
    obtain rfl := Option.some.inj H
    go_enter Tryd.func61, Tryd.ntmps61
    go_wp2_with (first | ((with_reducible refine gate_callee (f := 66) rfl ?_); refine goesL_ (some 8) rfl rfl Tryd.func66 (by kernel_rfl) rfl #[.slice A0 l0.length c0, .string a1] rfl (by (try simp only [List.map_toArray, List.map_cons, List.map_nil]); first | done | rfl | (simp only [List.length_drop, List.length_take]; rfl)) ?_; (with_reducible refine (spec_l10Find.calls k _ _ l0 a1 t137 _ ?side1 ?side2 A3.out).mono ?_); (case side1 => repeat (first | exact HR0.out | (with_reducible refine Kd.C_alloc ?_ _) | (with_reducible refine Kd.C_drewN ?_ _) | (with_reducible refine Kd.C_drew ?_))); (case side2 => exact HC0.out); rintro e w' ⟨rfl, ⟨nd, rfl⟩⟩; refine ⟨_, rfl, ?_⟩))
    go_ret
    exact ⟨by first | rfl | (simp; done) | (simp [*]; done), by repeat (first | exact Drawn0.refl _ | apply Drawn0.step)⟩

end Go.Proofs.YtklinldidfdnjaaDoor.PFnExactFindEntry
