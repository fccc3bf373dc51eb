-- Laid by a program of this session: a turned copy of the kit's print, with contracts by hand beside.
import Derived.Test.YtklinldidfdnjaaDoorPFnExactValueOkx0
import Derived.Test.YtklinldidfdnjaaDoorPFnExactValueOkx3
import Derived.Test.YtklinldidfdnjaaDoorPFnExactValueOkx4
namespace Go.Proofs.YtklinldidfdnjaaDoor.PFnExactValueOk
open Go.RowKit Go.Proofs.YtklinldidfdnjaaDoorW.PrintWords Go.Proofs.YtklinldidfdnjaaDoorW.PrintLast Go.Proofs.YtklinldidfdnjaaDoorW.PrintMore
attribute [local go_sem] max2_int min2_int max_two min_two max_three min_three max_four min_four   -- for this text's walks alone
set_option linter.unusedVariables false
set_option linter.unusedSimpArgs false

/-! ### impl_ValueOk: function 18 -/
mutual
def impl_ValueOk.j0 : Nat → ByteArray → Bool → Option (Bool)
  | 0, _, _ => none
  | k + 1, x5, x46 => if x46 = true then (some false) else (impl_ValueOk.l0 k x5 (x5.size : Int) 0)
def impl_ValueOk.l0 : Nat → ByteArray → Int → Int → Option (Bool)
  | 0, _, _, _ => none
  | k + 1, x5, x48, x49 => if x49 < x48 then (if 0 ≤ x49 then (if x49 < (x5.size : Int) then (if (bt x5 x49) < 48 then (some false) else (if (bt x5 x49) > 57 then (some false) else (impl_ValueOk.l0 k x5 x48 (wrap64 (x49 + 1))))) else (none)) else (none)) else (some true)
def impl_ValueOk.l1 : Nat → List ByteArray → Int → Int → Option (Bool)
  | 0, _, _, _ => none
  | k + 1, x73, x74, x75 => if x75 < x74 then (if 0 ≤ x75 then (if x75 < (x73.length : Int) then ((impl_NameOk.f k (rdOf ByteArray.empty x73 x75)).bind fun t165 => (if t165 = true then (impl_ValueOk.l1 k x73 x74 (wrap64 (x75 + 1))) else (some false))) else (none)) else (none)) else (some true)
end
def impl_ValueOk.f (k : Nat) (a0 : ByteArray) (a1 : ByteArray) : Option (Bool) := if a0.toList = ([98, 111, 111, 108] : List UInt8) then (if a1.toList = ([116, 114, 117, 101] : List UInt8) then (some true) else (some (a1.toList == ([102, 97, 108, 115, 101] : List UInt8)))) else (if a0.toList = ([105, 110, 116] : List UInt8) then ((strings_TrimPrefix.f a1 (⟨#[45]⟩ : ByteArray)).bind fun t160 => (if (t160.size : Int) = 0 then (impl_ValueOk.j0 k t160 true) else (if (t160.size : Int) > 15 then (impl_ValueOk.j0 k t160 true) else (if 0 < (t160.size : Int) then (if (bt t160 0) = 48 then (if (t160.size : Int) > 1 then (impl_ValueOk.j0 k t160 true) else (impl_ValueOk.j0 k t160 (decide ((a1.size : Int) > 1)))) else (impl_ValueOk.j0 k t160 false)) else (none))))) else (if a0.toList = ([116, 101, 120, 116] : List UInt8) then (some (decide ((a1.size : Int) ≤ 4000))) else (if a0.toList = ([108, 105, 115, 116] : List UInt8) then (if a1.toList = ([] : List UInt8) then (some true) else ((strings_Split.f a1 (⟨#[32]⟩ : ByteArray)).bind fun t161 => (impl_ValueOk.l1 k t161 (t161.length : Int) 0))) else ((impl_choices.f k a0).bind fun bt166 => (if bt166.2 = true then ((impl_inList.f k bt166.1 a1).bind fun t170 => (some t170)) else (some false))))))
theorem impl_ValueOk.mono_l : ∀ k, (∀ y0 y1, LeO (impl_ValueOk.j0 k y0 y1) (impl_ValueOk.j0 (k + 1) y0 y1)) ∧ (∀ y0 y1 y2, LeO (impl_ValueOk.l0 k y0 y1 y2) (impl_ValueOk.l0 (k + 1) y0 y1 y2)) ∧ (∀ y0 y1 y2, LeO (impl_ValueOk.l1 k y0 y1 y2) (impl_ValueOk.l1 (k + 1) y0 y1 y2))
  | 0 => ⟨fun _ _ r h => by simp [impl_ValueOk.j0] at h, fun _ _ _ r h => by simp [impl_ValueOk.l0] at h, fun _ _ _ r h => by simp [impl_ValueOk.l1] at h⟩
  | k + 1 => by
    obtain ⟨ih0, ih1, ih2⟩ := impl_ValueOk.mono_l k
    refine ⟨?_, ?_, ?_⟩
    · intro y0 y1
      unfold impl_ValueOk.j0
      repeat' first
      | (with_reducible exact ih0 _ _)
      | (with_reducible exact ih1 _ _ _)
      | (with_reducible exact ih2 _ _ _)
      | (with_reducible exact impl_NameOk.mono _ _)
      | (with_reducible exact impl_choices.mono _ _)
      | (with_reducible exact impl_inList.mono _ _ _)
      | (with_reducible exact LeO.refl _)
      | (with_reducible exact LeO.none _)
      | (with_reducible refine LeO.ite ?_ ?_)
      | (with_reducible refine LeO.bind ?_ (fun _ => ?_))
      | exact ih0 _ _
      | exact ih1 _ _ _
      | exact ih2 _ _ _
      | exact impl_NameOk.mono _ _
      | exact impl_choices.mono _ _
      | exact impl_inList.mono _ _ _
      | exact LeO.none _
      | refine LeO.ite ?_ ?_
      | refine LeO.bind ?_ (fun _ => ?_)
    · intro y0 y1 y2
      unfold impl_ValueOk.l0
      repeat' first
      | (with_reducible exact ih0 _ _)
      | (with_reducible exact ih1 _ _ _)
      | (with_reducible exact ih2 _ _ _)
      | (with_reducible exact impl_NameOk.mono _ _)
      | (with_reducible exact impl_choices.mono _ _)
      | (with_reducible exact impl_inList.mono _ _ _)
      | (with_reducible exact LeO.refl _)
      | (with_reducible exact LeO.none _)
      | (with_reducible refine LeO.ite ?_ ?_)
      | (with_reducible refine LeO.bind ?_ (fun _ => ?_))
      | exact ih0 _ _
      | exact ih1 _ _ _
      | exact ih2 _ _ _
      | exact impl_NameOk.mono _ _
      | exact impl_choices.mono _ _
      | exact impl_inList.mono _ _ _
      | exact LeO.none _
      | refine LeO.ite ?_ ?_
      | refine LeO.bind ?_ (fun _ => ?_)
    · intro y0 y1 y2
      unfold impl_ValueOk.l1
      repeat' first
      | (with_reducible exact ih0 _ _)
      | (with_reducible exact ih1 _ _ _)
      | (with_reducible exact ih2 _ _ _)
      | (with_reducible exact impl_NameOk.mono _ _)
      | (with_reducible exact impl_choices.mono _ _)
      | (with_reducible exact impl_inList.mono _ _ _)
      | (with_reducible exact LeO.refl _)
      | (with_reducible exact LeO.none _)
      | (with_reducible refine LeO.ite ?_ ?_)
      | (with_reducible refine LeO.bind ?_ (fun _ => ?_))
      | exact ih0 _ _
      | exact ih1 _ _ _
      | exact ih2 _ _ _
      | exact impl_NameOk.mono _ _
      | exact impl_choices.mono _ _
      | exact impl_inList.mono _ _ _
      | exact LeO.none _
      | refine LeO.ite ?_ ?_
      | refine LeO.bind ?_ (fun _ => ?_)
theorem impl_ValueOk.mono : ∀ a0 a1 k, LeO (impl_ValueOk.f k a0 a1) (impl_ValueOk.f (k + 1) a0 a1) := by
  intro a0 a1 k
  obtain ⟨ih0, ih1, ih2⟩ := impl_ValueOk.mono_l k
  unfold impl_ValueOk.f
  repeat' first
      | (with_reducible exact ih0 _ _)
      | (with_reducible exact ih1 _ _ _)
      | (with_reducible exact ih2 _ _ _)
      | (with_reducible exact impl_NameOk.mono _ _)
      | (with_reducible exact impl_choices.mono _ _)
      | (with_reducible exact impl_inList.mono _ _ _)
      | (with_reducible exact LeO.refl _)
      | (with_reducible exact LeO.none _)
      | (with_reducible refine LeO.ite ?_ ?_)
      | (with_reducible refine LeO.bind ?_ (fun _ => ?_))
      | exact ih0 _ _
      | exact ih1 _ _ _
      | exact ih2 _ _ _
      | exact impl_NameOk.mono _ _
      | exact impl_choices.mono _ _
      | exact impl_inList.mono _ _ _
      | exact LeO.none _
      | refine LeO.ite ?_ ?_
      | refine LeO.bind ?_ (fun _ => ?_)
set_option maxHeartbeats 8000000 in
set_option maxRecDepth 100000 in
theorem impl_ValueOk.calls (k : Nat) (a0 : ByteArray) (a1 : ByteArray) (r : Bool) (w : World) (h : impl_ValueOk.f k a0 a1 = some r) :
    Calls Tryd.prog 18 #[.string a0, .string a1] w fun e w' => e = .returned (.bool r) ∧ Below w.heap.size w w' := by
  have HB := Aside0.mk (Below.refl w.heap.size w)
  have H : (if a0.toList = ([98, 111, 111, 108] : List UInt8) then (if a1.toList = ([116, 114, 117, 101] : List UInt8) then (some true) else (some (a1.toList == ([102, 97, 108, 115, 101] : List UInt8)))) else (if a0.toList = ([105, 110, 116] : List UInt8) then ((strings_TrimPrefix.f a1 (⟨#[45]⟩ : ByteArray)).bind fun t160 => (if (t160.size : Int) = 0 then (impl_ValueOk.j0 k t160 true) else (if (t160.size : Int) > 15 then (impl_ValueOk.j0 k t160 true) else (if 0 < (t160.size : Int) then (if (bt t160 0) = 48 then (if (t160.size : Int) > 1 then (impl_ValueOk.j0 k t160 true) else (impl_ValueOk.j0 k t160 (decide ((a1.size : Int) > 1)))) else (impl_ValueOk.j0 k t160 false)) else (none))))) else (if a0.toList = ([116, 101, 120, 116] : List UInt8) then (some (decide ((a1.size : Int) ≤ 4000))) else (if a0.toList = ([108, 105, 115, 116] : List UInt8) then (if a1.toList = ([] : List UInt8) then (some true) else ((strings_Split.f a1 (⟨#[32]⟩ : ByteArray)).bind fun t161 => (impl_ValueOk.l1 k t161 (t161.length : Int) 0))) else ((impl_choices.f k a0).bind fun bt166 => (if bt166.2 = true then ((impl_inList.f k bt166.1 a1).bind fun t170 => (some t170)) else (some false))))))) = some r := h
  clear h
  by_cases c3 : a0.toList = ([98, 111, 111, 108] : List UInt8)
  · rw [if_pos c3] at H
    have c3b0 : (a0.toList == ([98, 111, 111, 108] : List UInt8)) = true := beq_iff_eq.mpr c3
    have c3b1 : (a0.toList != ([98, 111, 111, 108] : List UInt8)) = false := bne_eq_false_iff_eq.mpr c3
    clear c3
    by_cases c4 : a1.toList = ([116, 114, 117, 101] : List UInt8)
    · rw [if_pos c4] at H
      have c4b0 : (a1.toList == ([116, 114, 117, 101] : List UInt8)) = true := beq_iff_eq.mpr c4
      have c4b1 : (a1.toList != ([116, 114, 117, 101] : List UInt8)) = false := bne_eq_false_iff_eq.mpr c4
      clear c4
      obtain rfl := Option.some.inj H
      go_enter Tryd.func18, Tryd.ntmps18
      go_wp2
      go_ret
      exact ⟨by first | rfl | (simp [errW_none, errW_some] <;> rfl) | (simp [*, errW_none, errW_some] <;> rfl), by repeat (first | (with_reducible first | exact HB.out | apply below_alloc | apply pw_below_drewN | apply below_drew1) | exact HB.out)⟩
    · rw [if_neg c4] at H
      have c4b0 : (a1.toList == ([116, 114, 117, 101] : List UInt8)) = false := beq_eq_false_iff_ne.mpr c4
      have c4b1 : (a1.toList != ([116, 114, 117, 101] : List UInt8)) = true := bne_iff_ne.mpr c4
      obtain rfl := Option.some.inj H
      go_enter Tryd.func18, Tryd.ntmps18
      go_wp2
      go_ret
      exact ⟨by first | rfl | (simp [errW_none, errW_some] <;> rfl) | (simp [*, errW_none, errW_some] <;> rfl), by repeat (first | (with_reducible first | exact HB.out | apply below_alloc | apply pw_below_drewN | apply below_drew1) | exact HB.out)⟩
  · rw [if_neg c3] at H
    have c3b0 : (a0.toList == ([98, 111, 111, 108] : List UInt8)) = false := beq_eq_false_iff_ne.mpr c3
    have c3b1 : (a0.toList != ([98, 111, 111, 108] : List UInt8)) = true := bne_iff_ne.mpr c3
    by_cases c5 : a0.toList = ([105, 110, 116] : List UInt8)
    · rw [if_pos c5] at H
      have c5b0 : (a0.toList == ([105, 110, 116] : List UInt8)) = true := beq_iff_eq.mpr c5
      have c5b1 : (a0.toList != ([105, 110, 116] : List UInt8)) = false := bne_eq_false_iff_eq.mpr c5
      clear c5
      replace H := Option.bind_eq_some_iff.mp H
      obtain ⟨t160, A60, H⟩ := H
      replace H : (if (t160.size : Int) = 0 then (impl_ValueOk.j0 k t160 true) else (if (t160.size : Int) > 15 then (impl_ValueOk.j0 k t160 true) else (if 0 < (t160.size : Int) then (if (bt t160 0) = 48 then (if (t160.size : Int) > 1 then (impl_ValueOk.j0 k t160 true) else (impl_ValueOk.j0 k t160 (decide ((a1.size : Int) > 1)))) else (impl_ValueOk.j0 k t160 false)) else (none)))) = some r := H
      have A6 := Aside0.mk A60
      clear A60
      have HC7 := Aside0.mk H
      clear H
      go_enter Tryd.func18, Tryd.ntmps18
      go_upto_region 6 with (first | ((with_reducible refine gate_callee (f := 45) rfl ?_); refine goesL_ (some 23) rfl rfl Tryd.func45 (by kernel_rfl) rfl #[.string a1, .string (⟨#[45]⟩ : ByteArray)] rfl (by (try simp only [List.map_toArray, List.map_cons, List.map_nil]); first | done | rfl | (simp only [List.length_drop, List.length_take]; rfl)) ?_; (with_reducible refine (strings_TrimPrefix.calls a1 (⟨#[45]⟩ : ByteArray) t160 _ A6.out).mono ?_); rintro e w' ⟨rfl, ⟨nd, rfl⟩⟩; refine ⟨_, rfl, ?_⟩))
      (try simp only [Act.put, List.setIfInBounds_toArray, List.set_cons_zero, List.set_cons_succ])
      go_cut [46] (fun v46 wc => ∃ (kq : Nat) (x46_6 : Bool), v46 = .bool x46_6 ∧ Aside0 (impl_ValueOk.j0 kq t160 x46_6 = some r) ∧ Aside0 (kq ≤ k) ∧ Aside0 (Below w.heap.size w wc))
      case first =>
        have H := HC7.out
        clear HC7
        by_cases c8 : (t160.size : Int) = 0
        · rw [if_pos c8] at H
          have c8b0 : ((t160.size : Int) == 0) = true := beq_iff_eq.mpr c8
          have c8b1 : ((t160.size : Int) != 0) = false := bne_eq_false_iff_eq.mpr c8
          clear c8
          (first | rw [c8b0] | (simp only [i64_w, i32_w]; rw [c8b0]) | skip)
          have H' := Aside0.mk H
          clear H
          go_wp2
          go_meet
          case rel => exact ⟨_, (true), (by first | rfl | (simp; done) | (simp [*]; done)), H', ⟨by first | omega | exact Nat.le_refl _⟩, ⟨by repeat (first | (with_reducible first | exact HB.out | apply below_alloc | apply pw_below_drewN | apply below_drew1) | exact HB.out)⟩⟩
        · rw [if_neg c8] at H
          have c8b0 : ((t160.size : Int) == 0) = false := beq_eq_false_iff_ne.mpr c8
          have c8b1 : ((t160.size : Int) != 0) = true := bne_iff_ne.mpr c8
          (first | rw [c8b0] | (simp only [i64_w, i32_w]; rw [c8b0]) | skip)
          by_cases c9 : (t160.size : Int) > 15
          · rw [if_pos c9] at H
            have c9b0 : decide (15 < (t160.size : Int)) = true := decide_eq_true c9
            have c9b1 : decide (15 < t160.size) = true := decide_eq_true (by omega)
            clear c9
            have H' := Aside0.mk H
            clear H
            go_wp2
            go_meet
            case rel => exact ⟨_, (true), (by first | rfl | (simp; done) | (simp [*]; done)), H', ⟨by first | omega | exact Nat.le_refl _⟩, ⟨by repeat (first | (with_reducible first | exact HB.out | apply below_alloc | apply pw_below_drewN | apply below_drew1) | exact HB.out)⟩⟩
          · rw [if_neg c9] at H
            have c9b0 : decide (15 < (t160.size : Int)) = false := decide_eq_false c9
            have c9b1 : decide (15 < t160.size) = false := decide_eq_false (by omega)
            clear c9
            by_cases c10 : 0 < (t160.size : Int)
            · rw [if_pos c10] at H
              have c10b0 : decide (0 < (t160.size : Int)) = true := decide_eq_true c10
              have c10b1 : decide (0 < t160.size) = true := decide_eq_true (by omega)
              clear c10
              by_cases c12 : (bt t160 0) = 48
              · rw [if_pos c12] at H
                have c12b0 : ((bt t160 0) == 48) = true := beq_iff_eq.mpr c12
                have c12b1 : ((bt t160 0) != 48) = false := bne_eq_false_iff_eq.mpr c12
                clear c12
                by_cases c13 : (t160.size : Int) > 1
                · rw [if_pos c13] at H
                  have c13b0 : decide (1 < (t160.size : Int)) = true := decide_eq_true c13
                  have c13b1 : decide (1 < t160.size) = true := decide_eq_true (by omega)
                  clear c13
                  have H' := Aside0.mk H
                  clear H
                  have p11 : 0 ≤ (0 : Int) := (by omega)
                  have q11 : 0 < t160.size := (by have : (0 : Int) < (t160.size : Int) := of_decide_eq_true (by first | (with_reducible assumption) | assumption); omega)
                  have hx11 : ∀ h : 0 < t160.size, ((t160[0]'h).toNat : Int) = bt t160 0 := bt_at t160 0
                  clear p11
                  have qi11 : (0 < (t160.size : Int)) = True := eq_true (of_decide_eq_true (by first | (with_reducible assumption) | assumption))
                  replace q11 := eq_true q11
                  go_wp2
                  go_meet
                  case rel => exact ⟨_, (true), (by first | rfl | (simp; done) | (simp [*]; done)), H', ⟨by first | omega | exact Nat.le_refl _⟩, ⟨by repeat (first | (with_reducible first | exact HB.out | apply below_alloc | apply pw_below_drewN | apply below_drew1) | exact HB.out)⟩⟩
                · rw [if_neg c13] at H
                  have c13b0 : decide (1 < (t160.size : Int)) = false := decide_eq_false c13
                  have c13b1 : decide (1 < t160.size) = false := decide_eq_false (by omega)
                  clear c13
                  have H' := Aside0.mk H
                  clear H
                  have p11 : 0 ≤ (0 : Int) := (by omega)
                  have q11 : 0 < t160.size := (by have : (0 : Int) < (t160.size : Int) := of_decide_eq_true (by first | (with_reducible assumption) | assumption); omega)
                  have hx11 : ∀ h : 0 < t160.size, ((t160[0]'h).toNat : Int) = bt t160 0 := bt_at t160 0
                  clear p11
                  have qi11 : (0 < (t160.size : Int)) = True := eq_true (of_decide_eq_true (by first | (with_reducible assumption) | assumption))
                  replace q11 := eq_true q11
                  go_wp2
                  go_meet
                  case rel => exact ⟨_, (decide ((a1.size : Int) > 1)), (by first | rfl | (simp; done) | (simp [*]; done)), H', ⟨by first | omega | exact Nat.le_refl _⟩, ⟨by repeat (first | (with_reducible first | exact HB.out | apply below_alloc | apply pw_below_drewN | apply below_drew1) | exact HB.out)⟩⟩
              · rw [if_neg c12] at H
                have c12b0 : ((bt t160 0) == 48) = false := beq_eq_false_iff_ne.mpr c12
                have c12b1 : ((bt t160 0) != 48) = true := bne_iff_ne.mpr c12
                have H' := Aside0.mk H
                clear H
                have p11 : 0 ≤ (0 : Int) := (by omega)
                have q11 : 0 < t160.size := (by have : (0 : Int) < (t160.size : Int) := of_decide_eq_true (by first | (with_reducible assumption) | assumption); omega)
                have hx11 : ∀ h : 0 < t160.size, ((t160[0]'h).toNat : Int) = bt t160 0 := bt_at t160 0
                clear p11
                have qi11 : (0 < (t160.size : Int)) = True := eq_true (of_decide_eq_true (by first | (with_reducible assumption) | assumption))
                replace q11 := eq_true q11
                go_wp2
                go_meet
                case rel => exact ⟨_, (false), (by first | rfl | (simp; done) | (simp [*]; done)), H', ⟨by first | omega | exact Nat.le_refl _⟩, ⟨by repeat (first | (with_reducible first | exact HB.out | apply below_alloc | apply pw_below_drewN | apply below_drew1) | exact HB.out)⟩⟩
            · rw [if_neg c10] at H
              exact absurd H (by simp)
      case rest =>
        clear HC7
        try clear c1
        try clear p1
        try clear q1
        try clear hx1
        try clear qi1
        try clear p2
        try clear c3
        try clear c3b0
        try clear c3b1
        try clear c4
        try clear c4b0
        try clear c4b1
        try clear c5
        try clear c5b0
        try clear c5b1
        try clear c8
        try clear c8b0
        try clear c8b1
        try clear c9
        try clear c9b0
        try clear c9b1
        try clear c10
        try clear c10b0
        try clear c10b1
        try clear p11
        try clear q11
        try clear hx11
        try clear qi11
        try clear c12
        try clear c12b0
        try clear c12b1
        try clear c13
        try clear c13b0
        try clear c13b1
        try clear p11
        try clear q11
        obtain ⟨kq, x46_6, rfl, HA, HJ6, HB⟩ := hcut
        cases kq with
        | zero => exact absurd HA.out (by simp [impl_ValueOk.j0])
        | succ kj6 =>
          have H := HA.out
          clear HA
          simp only [impl_ValueOk.j0] at H
          by_cases c14 : x46_6 = true
          · subst c14
            have H1 : (some false) = some r := by rw [if_pos rfl] at H; exact H
            clear H
            have H := H1
            clear H1
            obtain rfl := Option.some.inj H
            go_wp2
            go_ret
            exact ⟨by first | rfl | (simp [errW_none, errW_some] <;> rfl) | (simp [*, errW_none, errW_some] <;> rfl), by repeat (first | (with_reducible first | exact HB.out | apply below_alloc | apply pw_below_drewN | apply below_drew1) | exact HB.out)⟩
          · replace c14 := Bool.eq_false_iff.mpr c14
            subst c14
            have H1 : (impl_ValueOk.l0 kj6 t160 (t160.size : Int) 0) = some r := by rw [if_neg (show ¬ (false = true) by decide)] at H; exact H
            clear H
            have H := H1
            clear H1
            have H' := Aside0.mk H
            clear H
            go_wp2
            go_loopg [49] kj6 (fun kq v49 w' => ∃ (x49_2 : Int), v49 = .int .i64 x49_2 ∧ Aside0 (impl_ValueOk.l0 kq t160 (t160.size : Int) x49_2 = some r) ∧ Aside0 (kq ≤ kj6) ∧ Aside0 (Below w.heap.size w w'))
            case atStart => exact ⟨(0), (by first | rfl | (simp; done) | (simp [*]; done)), H', ⟨Nat.le_refl _⟩, ⟨by repeat (first | (with_reducible first | exact HB.out | apply below_alloc | apply pw_below_drewN | apply below_drew1) | exact HB.out)⟩⟩
            case round =>
              clear H'
              try clear c1
              try clear p1
              try clear q1
              try clear hx1
              try clear qi1
              try clear p2
              try clear c3
              try clear c3b0
              try clear c3b1
              try clear c4
              try clear c4b0
              try clear c4b1
              try clear c5
              try clear c5b0
              try clear c5b1
              try clear c8
              try clear c8b0
              try clear c8b1
              try clear c9
              try clear c9b0
              try clear c9b1
              try clear c10
              try clear c10b0
              try clear c10b1
              try clear p11
              try clear q11
              try clear hx11
              try clear qi11
              try clear c12
              try clear c12b0
              try clear c12b1
              try clear c13
              try clear c13b0
              try clear c13b1
              try clear c14
              try clear p1
              try clear p11
              try clear p2
              try clear q1
              try clear q11
              obtain ⟨x49_2, rfl, HA, HK2, HB⟩ := hrel
              cases gk with
              | zero => exact absurd HA.out (by simp [impl_ValueOk.l0])
              | succ k2 =>
                have H := HA.out
                clear HA
                simp only [impl_ValueOk.l0] at H
                by_cases c15 : x49_2 < (t160.size : Int)
                · rw [if_pos c15] at H
                  have c15b0 : decide (x49_2 < (t160.size : Int)) = true := decide_eq_true c15
                  clear c15
                  by_cases c16 : 0 ≤ x49_2
                  · rw [if_pos c16] at H
                    have c16b0 : decide (0 ≤ x49_2) = true := decide_eq_true c16
                    clear c16
                    by_cases c17 : x49_2 < (t160.size : Int)
                    · rw [if_pos c17] at H
                      have c17b0 : decide (x49_2 < (t160.size : Int)) = true := decide_eq_true c17
                      clear c17
                      by_cases c19 : (bt t160 x49_2) < 48
                      · rw [if_pos c19] at H
                        have c19b0 : decide ((bt t160 x49_2) < 48) = true := decide_eq_true c19
                        clear c19
                        obtain rfl := Option.some.inj H
                        have p18 : 0 ≤ (x49_2 : Int) := of_decide_eq_true (by first | (with_reducible assumption) | assumption)
                        have q18 : x49_2 < (t160.size : Int) := of_decide_eq_true (by first | (with_reducible assumption) | assumption)
                        have hx18 := bt_at t160 x49_2
                        replace p18 := eq_true p18
                        replace q18 := eq_true q18
                        go_wp2
                        go_ret
                        exact ⟨by first | rfl | (simp [errW_none, errW_some] <;> rfl) | (simp [*, errW_none, errW_some] <;> rfl), by repeat (first | (with_reducible first | exact HB.out | apply below_alloc | apply pw_below_drewN | apply below_drew1) | exact HB.out)⟩
                      · rw [if_neg c19] at H
                        have c19b0 : decide ((bt t160 x49_2) < 48) = false := decide_eq_false c19
                        clear c19
                        by_cases c21 : (bt t160 x49_2) > 57
                        · rw [if_pos c21] at H
                          have c21b0 : decide (57 < (bt t160 x49_2)) = true := decide_eq_true c21
                          clear c21
                          obtain rfl := Option.some.inj H
                          have p18 : 0 ≤ (x49_2 : Int) := of_decide_eq_true (by first | (with_reducible assumption) | assumption)
                          have q18 : x49_2 < (t160.size : Int) := of_decide_eq_true (by first | (with_reducible assumption) | assumption)
                          have hx18 := bt_at t160 x49_2
                          replace p18 := eq_true p18
                          replace q18 := eq_true q18
                          have p20 : 0 ≤ (x49_2 : Int) := of_decide_eq_true (by first | (with_reducible assumption) | assumption)
                          have q20 : x49_2 < (t160.size : Int) := of_decide_eq_true (by first | (with_reducible assumption) | assumption)
                          have hx20 := bt_at t160 x49_2
                          replace p20 := eq_true p20
                          replace q20 := eq_true q20
                          go_wp2
                          go_ret
                          exact ⟨by first | rfl | (simp [errW_none, errW_some] <;> rfl) | (simp [*, errW_none, errW_some] <;> rfl), by repeat (first | (with_reducible first | exact HB.out | apply below_alloc | apply pw_below_drewN | apply below_drew1) | exact HB.out)⟩
                        · rw [if_neg c21] at H
                          have c21b0 : decide (57 < (bt t160 x49_2)) = false := decide_eq_false c21
                          clear c21
                          have H' := Aside0.mk H
                          clear H
                          have p18 : 0 ≤ (x49_2 : Int) := of_decide_eq_true (by first | (with_reducible assumption) | assumption)
                          have q18 : x49_2 < (t160.size : Int) := of_decide_eq_true (by first | (with_reducible assumption) | assumption)
                          have hx18 := bt_at t160 x49_2
                          replace p18 := eq_true p18
                          replace q18 := eq_true q18
                          have p20 : 0 ≤ (x49_2 : Int) := of_decide_eq_true (by first | (with_reducible assumption) | assumption)
                          have q20 : x49_2 < (t160.size : Int) := of_decide_eq_true (by first | (with_reducible assumption) | assumption)
                          have hx20 := bt_at t160 x49_2
                          replace p20 := eq_true p20
                          replace q20 := eq_true q20
                          go_wp2
                          go_roundg k2
                          case measure => have := HJ6.out; have := HK2.out; omega
                          case rel => exact ⟨(wrap64 (x49_2 + 1)), (by first | rfl | (simp; done) | (simp [*]; done)), H', ⟨by have := HJ6.out; have := HK2.out; omega⟩, ⟨by repeat (first | (with_reducible first | exact HB.out | apply below_alloc | apply pw_below_drewN | apply below_drew1) | exact HB.out)⟩⟩
                    · rw [if_neg c17] at H
                      exact absurd H (by simp)
                  · rw [if_neg c16] at H
                    exact absurd H (by simp)
                · rw [if_neg c15] at H
                  have c15b0 : decide (x49_2 < (t160.size : Int)) = false := decide_eq_false c15
                  clear c15
                  obtain rfl := Option.some.inj H
                  go_wp2
                  go_ret
                  exact ⟨by first | rfl | (simp [errW_none, errW_some] <;> rfl) | (simp [*, errW_none, errW_some] <;> rfl), by repeat (first | (with_reducible first | exact HB.out | apply below_alloc | apply pw_below_drewN | apply below_drew1) | exact HB.out)⟩
    · rw [if_neg c5] at H
      have c5b0 : (a0.toList == ([105, 110, 116] : List UInt8)) = false := beq_eq_false_iff_ne.mpr c5
      have c5b1 : (a0.toList != ([105, 110, 116] : List UInt8)) = true := bne_iff_ne.mpr c5
      by_cases c22 : a0.toList = ([116, 101, 120, 116] : List UInt8)
      · rw [if_pos c22] at H
        have c22b0 : (a0.toList == ([116, 101, 120, 116] : List UInt8)) = true := beq_iff_eq.mpr c22
        have c22b1 : (a0.toList != ([116, 101, 120, 116] : List UInt8)) = false := bne_eq_false_iff_eq.mpr c22
        clear c22
        obtain rfl := Option.some.inj H
        go_enter Tryd.func18, Tryd.ntmps18
        go_wp2
        go_ret
        exact ⟨by first | rfl | (simp [errW_none, errW_some] <;> rfl) | (simp [*, errW_none, errW_some] <;> rfl), by repeat (first | (with_reducible first | exact HB.out | apply below_alloc | apply pw_below_drewN | apply below_drew1) | exact HB.out)⟩
      · rw [if_neg c22] at H
        have c22b0 : (a0.toList == ([116, 101, 120, 116] : List UInt8)) = false := beq_eq_false_iff_ne.mpr c22
        have c22b1 : (a0.toList != ([116, 101, 120, 116] : List UInt8)) = true := bne_iff_ne.mpr c22
        by_cases c23 : a0.toList = ([108, 105, 115, 116] : List UInt8)
        · rw [if_pos c23] at H
          have c23b0 : (a0.toList == ([108, 105, 115, 116] : List UInt8)) = true := beq_iff_eq.mpr c23
          have c23b1 : (a0.toList != ([108, 105, 115, 116] : List UInt8)) = false := bne_eq_false_iff_eq.mpr c23
          clear c23
          by_cases c24 : a1.toList = ([] : List UInt8)
          · rw [if_pos c24] at H
            have c24b0 : (a1.toList == ([] : List UInt8)) = true := beq_iff_eq.mpr c24
            have c24b1 : (a1.toList != ([] : List UInt8)) = false := bne_eq_false_iff_eq.mpr c24
            clear c24
            obtain rfl := Option.some.inj H
            go_enter Tryd.func18, Tryd.ntmps18
            go_wp2
            go_ret
            exact ⟨by first | rfl | (simp [errW_none, errW_some] <;> rfl) | (simp [*, errW_none, errW_some] <;> rfl), by repeat (first | (with_reducible first | exact HB.out | apply below_alloc | apply pw_below_drewN | apply below_drew1) | exact HB.out)⟩
          · rw [if_neg c24] at H
            have c24b0 : (a1.toList == ([] : List UInt8)) = false := beq_eq_false_iff_ne.mpr c24
            have c24b1 : (a1.toList != ([] : List UInt8)) = true := bne_iff_ne.mpr c24
            replace H := Option.bind_eq_some_iff.mp H
            obtain ⟨t161, A250, H⟩ := H
            replace H : (impl_ValueOk.l1 k t161 (t161.length : Int) 0) = some r := H
            have A25 := Aside0.mk A250
            clear A250
            have H' := Aside0.mk H
            clear H
            go_enter Tryd.func18, Tryd.ntmps18
            go_wp2_with (first | ((with_reducible refine gate_callee (f := 33) rfl ?_); refine goesL_ (some 73) rfl rfl Tryd.func33 (by kernel_rfl) rfl #[.string a1, .string (⟨#[32]⟩ : ByteArray)] rfl (by (try simp only [List.map_toArray, List.map_cons, List.map_nil]); first | done | rfl | (simp only [List.length_drop, List.length_take]; rfl)) ?_; (with_reducible refine (strings_Split.calls a1 (⟨#[32]⟩ : ByteArray) t161 _ A25.out).mono ?_); rintro e w26 ⟨v162, rfl, ho0, hb⟩; refine ⟨_, rfl, ?_⟩; have n0_ := Aside0.mk (Kd.R_lower ho0 (below_size (by repeat (first | (with_reducible first | exact HB.out | apply below_alloc | apply pw_below_drewN | apply below_drew1) | exact HB.out)))); have n1_ := Aside0.mk (below_step (by repeat (first | (with_reducible first | exact HB.out | apply below_alloc | apply pw_below_drewN | apply below_drew1) | exact HB.out)) hb); clear HB; have HO163 := n0_; have HB := n1_; clear n0_ n1_; (try clear hb); (try clear hb2); (try clear hk); (try clear hi); (try clear ho0); obtain ⟨Ao27, co27, eo27⟩ := Kd.R_slice HO163.out; subst eo27))
            go_loopg [75] k (fun kq v75 w' => ∃ (x75_1 : Int), v75 = .int .i64 x75_1 ∧ Aside0 (impl_ValueOk.l1 kq t161 (t161.length : Int) x75_1 = some r) ∧ Aside0 (kq ≤ k) ∧ Aside0 (Kd.R Kd.string 9 w' w.heap.size (fun _ => True) (.slice Ao27 t161.length co27) t161) ∧ Aside0 (Below w.heap.size w w'))
            case atStart => exact ⟨(0), (by first | rfl | (simp; done) | (simp [*]; done)), H', ⟨Nat.le_refl _⟩, ⟨by (with_reducible repeat (first | apply Kd.R_alloc | apply Kd.R_drewN | apply Kd.R_drew)); exact HO163.out⟩, ⟨by repeat (first | (with_reducible first | exact HB.out | apply below_alloc | apply pw_below_drewN | apply below_drew1) | exact HB.out)⟩⟩
            case round =>
              clear H'
              try clear c1
              try clear p1
              try clear q1
              try clear hx1
              try clear qi1
              try clear c2
              try clear p2
              try clear q2
              try clear hx2
              try clear c3
              try clear c3b0
              try clear c3b1
              try clear c4
              try clear c4b0
              try clear c4b1
              try clear c5
              try clear c5b0
              try clear c5b1
              try clear p6
              try clear c8
              try clear c8b0
              try clear c8b1
              try clear c9
              try clear c9b0
              try clear c9b1
              try clear c10
              try clear c10b0
              try clear c10b1
              try clear p11
              try clear q11
              try clear hx11
              try clear qi11
              try clear c12
              try clear c12b0
              try clear c12b1
              try clear c13
              try clear c13b0
              try clear c13b1
              try clear c14
              try clear c15
              try clear c15b0
              try clear c16
              try clear c16b0
              try clear c17
              try clear c17b0
              try clear c18
              try clear p18
              try clear q18
              try clear hx18
              try clear c19
              try clear c19b0
              try clear p20
              try clear q20
              try clear hx20
              try clear c21
              try clear c21b0
              try clear c22
              try clear c22b0
              try clear c22b1
              try clear c23
              try clear c23b0
              try clear c23b1
              try clear c24
              try clear c24b0
              try clear c24b1
              try clear p1
              try clear p11
              try clear p18
              try clear p2
              try clear p20
              try clear q1
              try clear q11
              try clear q18
              try clear q20
              obtain ⟨x75_1, rfl, HA, HK1, HO_73, HB⟩ := hrel
              cases gk with
              | zero => exact absurd HA.out (by simp [impl_ValueOk.l1])
              | succ k1 =>
                have H := HA.out
                clear HA
                simp only [impl_ValueOk.l1] at H
                by_cases c28 : x75_1 < (t161.length : Int)
                · rw [if_pos c28] at H
                  have c28b0 : decide (x75_1 < (t161.length : Int)) = true := decide_eq_true c28
                  clear c28
                  by_cases c29 : 0 ≤ x75_1
                  · rw [if_pos c29] at H
                    have c29b0 : decide (0 ≤ x75_1) = true := decide_eq_true c29
                    clear c29
                    by_cases c30 : x75_1 < (t161.length : Int)
                    · rw [if_pos c30] at H
                      have c30b0 : decide (x75_1 < (t161.length : Int)) = true := decide_eq_true c30
                      clear c30
                      replace H := Option.bind_eq_some_iff.mp H
                      obtain ⟨t165, A310, H⟩ := H
                      replace H : (if t165 = true then (impl_ValueOk.l1 k1 t161 (t161.length : Int) (wrap64 (x75_1 + 1))) else (some false)) = some r := H
                      have A31 := Aside0.mk A310
                      clear A310
                      by_cases c32 : t165 = true
                      · subst c32
                        have H1 : (impl_ValueOk.l1 k1 t161 (t161.length : Int) (wrap64 (x75_1 + 1))) = some r := by rw [if_pos rfl] at H; exact H
                        clear H
                        have H := H1
                        clear H1
                        have H' := Aside0.mk H
                        clear H
                        have p164 : 0 ≤ (x75_1 : Int) := of_decide_eq_true (by first | (with_reducible assumption) | assumption)
                        have q164 : x75_1 < (t161.length : Int) := of_decide_eq_true (by first | (with_reducible assumption) | assumption)
                        obtain ⟨ad164, e164, hx164_0⟩ := Kd.at_string (Kd.R_reads' HO_73.out).2.2 x75_1 p164 q164
                        cases e164
                        replace p164 := eq_true p164
                        replace q164 := eq_true q164
                        go_wp2_with (first | ((with_reducible refine gate_callee (f := 34) rfl ?_); refine goesL_ (some 80) rfl rfl Tryd.func34 (by kernel_rfl) rfl #[.string (rdOf ByteArray.empty t161 x75_1)] rfl (by (try simp only [List.map_toArray, List.map_cons, List.map_nil]); first | done | rfl | (simp only [List.length_drop, List.length_take]; rfl)) ?_; (with_reducible refine (impl_NameOk.calls k1 (rdOf ByteArray.empty t161 x75_1) true _ A31.out).mono ?_); rintro e w' ⟨rfl, ⟨nd, rfl⟩⟩; refine ⟨_, rfl, ?_⟩))
                        go_roundg k1
                        case measure => have := HK1.out; omega
                        case rel => exact ⟨(wrap64 (x75_1 + 1)), (by first | rfl | (simp; done) | (simp [*]; done)), H', ⟨by have := HK1.out; omega⟩, ⟨by (with_reducible repeat (first | apply Kd.R_alloc | apply Kd.R_drewN | apply Kd.R_drew)); exact HO_73.out⟩, ⟨by repeat (first | (with_reducible first | exact HB.out | apply below_alloc | apply pw_below_drewN | apply below_drew1) | exact HB.out)⟩⟩
                      · replace c32 := Bool.eq_false_iff.mpr c32
                        subst c32
                        have H1 : (some false) = some r := by rw [if_neg (show ¬ (false = true) by decide)] at H; exact H
                        clear H
                        have H := H1
                        clear H1
                        obtain rfl := Option.some.inj H
                        have p164 : 0 ≤ (x75_1 : Int) := of_decide_eq_true (by first | (with_reducible assumption) | assumption)
                        have q164 : x75_1 < (t161.length : Int) := of_decide_eq_true (by first | (with_reducible assumption) | assumption)
                        obtain ⟨ad164, e164, hx164_0⟩ := Kd.at_string (Kd.R_reads' HO_73.out).2.2 x75_1 p164 q164
                        cases e164
                        replace p164 := eq_true p164
                        replace q164 := eq_true q164
                        go_wp2_with (first | ((with_reducible refine gate_callee (f := 34) rfl ?_); refine goesL_ (some 80) rfl rfl Tryd.func34 (by kernel_rfl) rfl #[.string (rdOf ByteArray.empty t161 x75_1)] rfl (by (try simp only [List.map_toArray, List.map_cons, List.map_nil]); first | done | rfl | (simp only [List.length_drop, List.length_take]; rfl)) ?_; (with_reducible refine (impl_NameOk.calls k1 (rdOf ByteArray.empty t161 x75_1) false _ A31.out).mono ?_); rintro e w' ⟨rfl, ⟨nd, rfl⟩⟩; refine ⟨_, rfl, ?_⟩))
                        go_ret
                        exact ⟨by first | rfl | (simp [errW_none, errW_some] <;> rfl) | (simp [*, errW_none, errW_some] <;> rfl), by repeat (first | (with_reducible first | exact HB.out | apply below_alloc | apply pw_below_drewN | apply below_drew1) | exact HB.out)⟩
                    · rw [if_neg c30] at H
                      exact absurd H (by simp)
                  · rw [if_neg c29] at H
                    exact absurd H (by simp)
                · rw [if_neg c28] at H
                  have c28b0 : decide (x75_1 < (t161.length : Int)) = false := decide_eq_false c28
                  clear c28
                  obtain rfl := Option.some.inj H
                  go_wp2
                  go_ret
                  exact ⟨by first | rfl | (simp [errW_none, errW_some] <;> rfl) | (simp [*, errW_none, errW_some] <;> rfl), by repeat (first | (with_reducible first | exact HB.out | apply below_alloc | apply pw_below_drewN | apply below_drew1) | exact HB.out)⟩
        · rw [if_neg c23] at H
          have c23b0 : (a0.toList == ([108, 105, 115, 116] : List UInt8)) = false := beq_eq_false_iff_ne.mpr c23
          have c23b1 : (a0.toList != ([108, 105, 115, 116] : List UInt8)) = true := bne_iff_ne.mpr c23
          replace H := Option.bind_eq_some_iff.mp H
          obtain ⟨⟨t166, t167⟩, A330, H⟩ := H
          replace H : (if t167 = true then ((impl_inList.f k t166 a1).bind fun t170 => (some t170)) else (some false)) = some r := H
          have A33 := Aside0.mk A330
          clear A330
          by_cases c34 : t167 = true
          · subst c34
            have H1 : ((impl_inList.f k t166 a1).bind fun t170 => (some t170)) = some r := by rw [if_pos rfl] at H; exact H
            clear H
            have H := H1
            clear H1
            replace H := Option.bind_eq_some_iff.mp H
            obtain ⟨t170, A350, H⟩ := H
            replace H : (some t170) = some r := H
            have A35 := Aside0.mk A350
            clear A350
            obtain rfl := Option.some.inj H
            go_enter Tryd.func18, Tryd.ntmps18
            go_wp2_with (first | ((with_reducible refine gate_callee (f := 46) rfl ?_); refine goesL_ (some 85) rfl rfl Tryd.func46 (by kernel_rfl) rfl #[.string a0] rfl (by (try simp only [List.map_toArray, List.map_cons, List.map_nil]); first | done | rfl | (simp only [List.length_drop, List.length_take]; rfl)) ?_; (with_reducible refine (impl_choices.calls k a0 t166 true _ A33.out).mono ?_); rintro e w36 ⟨v168, rfl, ho0, hb⟩; refine ⟨_, rfl, ?_⟩; have n0_ := Aside0.mk (Kd.R_lower ho0 (below_size (by repeat (first | (with_reducible first | exact HB.out | apply below_alloc | apply pw_below_drewN | apply below_drew1) | exact HB.out)))); have n1_ := Aside0.mk (below_step (by repeat (first | (with_reducible first | exact HB.out | apply below_alloc | apply pw_below_drewN | apply below_drew1) | exact HB.out)) hb); clear HB; have HO169 := n0_; have HB := n1_; clear n0_ n1_; (try clear hb); (try clear hb2); (try clear hk); (try clear hi); (try clear ho0); obtain ⟨Ao37, co37, eo37⟩ := Kd.R_slice HO169.out; subst eo37) | (go_at_call 47; (with_reducible refine (impl_inList.calls k _ _ t166 a1 t170 _ ?side1 ?side2 A35.out).mono ?_); (case side1 => repeat (first | exact (Kd.R_reads' HO169.out).2.2 | (with_reducible refine Kd.C_alloc ?_ _) | (with_reducible refine Kd.C_drewN ?_ _) | (with_reducible refine Kd.C_drew ?_))); (case side2 => exact (Kd.R_reads' HO169.out).2.1); rintro e w' ⟨rfl, ⟨nd, rfl⟩⟩))
            go_ret
            exact ⟨by first | rfl | (simp [errW_none, errW_some] <;> rfl) | (simp [*, errW_none, errW_some] <;> rfl), by repeat (first | (with_reducible first | exact HB.out | apply below_alloc | apply pw_below_drewN | apply below_drew1) | exact HB.out)⟩
          · replace c34 := Bool.eq_false_iff.mpr c34
            subst c34
            have H1 : (some false) = some r := by rw [if_neg (show ¬ (false = true) by decide)] at H; exact H
            clear H
            have H := H1
            clear H1
            obtain rfl := Option.some.inj H
            go_enter Tryd.func18, Tryd.ntmps18
            go_wp2_with (first | ((with_reducible refine gate_callee (f := 46) rfl ?_); refine goesL_ (some 85) rfl rfl Tryd.func46 (by kernel_rfl) rfl #[.string a0] rfl (by (try simp only [List.map_toArray, List.map_cons, List.map_nil]); first | done | rfl | (simp only [List.length_drop, List.length_take]; rfl)) ?_; (with_reducible refine (impl_choices.calls k a0 t166 false _ A33.out).mono ?_); rintro e w38 ⟨v168, rfl, ho0, hb⟩; refine ⟨_, rfl, ?_⟩; have n0_ := Aside0.mk (Kd.R_lower ho0 (below_size (by repeat (first | (with_reducible first | exact HB.out | apply below_alloc | apply pw_below_drewN | apply below_drew1) | exact HB.out)))); have n1_ := Aside0.mk (below_step (by repeat (first | (with_reducible first | exact HB.out | apply below_alloc | apply pw_below_drewN | apply below_drew1) | exact HB.out)) hb); clear HB; have HO169 := n0_; have HB := n1_; clear n0_ n1_; (try clear hb); (try clear hb2); (try clear hk); (try clear hi); (try clear ho0)))
            go_ret
            exact ⟨by first | rfl | (simp [errW_none, errW_some] <;> rfl) | (simp [*, errW_none, errW_some] <;> rfl), by repeat (first | (with_reducible first | exact HB.out | apply below_alloc | apply pw_below_drewN | apply below_drew1) | exact HB.out)⟩

/-! ### laws_FnExactValueOk: function 6 -/
def laws_FnExactValueOk.f (k : Nat) (a0 : ByteArray) (a1 : ByteArray) : Option (Bool) := if (a0.size : Int) > 1048576 then (some true) else (if (a1.size : Int) > 1048576 then (some true) else ((spec_ValueOk.f k a0 a1).bind fun t171 => ((impl_ValueOk.f k a0 a1).bind fun t172 => (if (t172 != t171) = true then (some false) else (some true)))))
theorem laws_FnExactValueOk.mono : ∀ a0 a1 k, LeO (laws_FnExactValueOk.f k a0 a1) (laws_FnExactValueOk.f (k + 1) a0 a1) := by
  intro a0 a1 k
  unfold laws_FnExactValueOk.f
  repeat' first
      | (with_reducible exact impl_ValueOk.mono _ _ _)
      | (with_reducible exact spec_ValueOk.mono _ _ _)
      | (with_reducible exact LeO.refl _)
      | (with_reducible exact LeO.none _)
      | (with_reducible refine LeO.ite ?_ ?_)
      | (with_reducible refine LeO.bind ?_ (fun _ => ?_))
      | exact impl_ValueOk.mono _ _ _
      | exact spec_ValueOk.mono _ _ _
      | exact LeO.none _
      | refine LeO.ite ?_ ?_
      | refine LeO.bind ?_ (fun _ => ?_)
set_option maxHeartbeats 8000000 in
set_option maxRecDepth 100000 in
theorem laws_FnExactValueOk.calls (k : Nat) (a0 : ByteArray) (a1 : ByteArray) (r : Bool) (w : World) (h : laws_FnExactValueOk.f k a0 a1 = some r) :
    Calls Tryd.prog 6 #[.string a0, .string a1] w fun e w' => e = .returned (.bool r) ∧ Below w.heap.size w w' := by
  have HB := Aside0.mk (Below.refl w.heap.size w)
  have H : (if (a0.size : Int) > 1048576 then (some true) else (if (a1.size : Int) > 1048576 then (some true) else ((spec_ValueOk.f k a0 a1).bind fun t171 => ((impl_ValueOk.f k a0 a1).bind fun t172 => (if (t172 != t171) = true then (some false) else (some true)))))) = some r := h
  clear h
  by_cases c3 : (a0.size : Int) > 1048576
  · rw [if_pos c3] at H
    have c3b0 : decide (1048576 < (a0.size : Int)) = true := decide_eq_true c3
    have c3b1 : decide (1048576 < a0.size) = true := decide_eq_true (by omega)
    clear c3
    obtain rfl := Option.some.inj H
    go_enter Tryd.func6, Tryd.ntmps6
    go_wp2
    go_ret
    exact ⟨by first | rfl | (simp [errW_none, errW_some] <;> rfl) | (simp [*, errW_none, errW_some] <;> rfl), by repeat (first | (with_reducible first | exact HB.out | apply below_alloc | apply pw_below_drewN | apply below_drew1) | exact HB.out)⟩
  · rw [if_neg c3] at H
    have c3b0 : decide (1048576 < (a0.size : Int)) = false := decide_eq_false c3
    have c3b1 : decide (1048576 < a0.size) = false := decide_eq_false (by omega)
    clear c3
    by_cases c4 : (a1.size : Int) > 1048576
    · rw [if_pos c4] at H
      have c4b0 : decide (1048576 < (a1.size : Int)) = true := decide_eq_true c4
      have c4b1 : decide (1048576 < a1.size) = true := decide_eq_true (by omega)
      clear c4
      obtain rfl := Option.some.inj H
      go_enter Tryd.func6, Tryd.ntmps6
      go_wp2
      go_ret
      exact ⟨by first | rfl | (simp [errW_none, errW_some] <;> rfl) | (simp [*, errW_none, errW_some] <;> rfl), by repeat (first | (with_reducible first | exact HB.out | apply below_alloc | apply pw_below_drewN | apply below_drew1) | exact HB.out)⟩
    · rw [if_neg c4] at H
      have c4b0 : decide (1048576 < (a1.size : Int)) = false := decide_eq_false c4
      have c4b1 : decide (1048576 < a1.size) = false := decide_eq_false (by omega)
      clear c4
      replace H := Option.bind_eq_some_iff.mp H
      obtain ⟨t171, A50, H⟩ := H
      replace H : ((impl_ValueOk.f k a0 a1).bind fun t172 => (if (t172 != t171) = true then (some false) else (some true))) = some r := H
      have A5 := Aside0.mk A50
      clear A50
      replace H := Option.bind_eq_some_iff.mp H
      obtain ⟨t172, A60, H⟩ := H
      replace H : (if (t172 != t171) = true then (some false) else (some true)) = some r := H
      have A6 := Aside0.mk A60
      clear A60
      by_cases c7 : (t172 != t171) = true
      · rw [if_pos c7] at H
        have c7b0 : (t172 != t171) = true := c7
        (try (have c7b1 : decide (t172 = t171) = false := by simpa using c7))
        (try (have c7b2 : (t172 == t171) = false := by simpa using c7))
        (try (have c7b3 : ¬ (t172 = t171) := by simpa using c7))
        clear c7
        obtain rfl := Option.some.inj H
        go_enter Tryd.func6, Tryd.ntmps6
        go_wp2_with (first | ((with_reducible refine gate_callee (f := 17) rfl ?_); refine goesL_ (some 15) rfl rfl Tryd.func17 (by kernel_rfl) rfl #[.string a0, .string a1] rfl (by (try simp only [List.map_toArray, List.map_cons, List.map_nil]); first | done | rfl | (simp only [List.length_drop, List.length_take]; rfl)) ?_; (with_reducible refine (spec_ValueOk.calls k a0 a1 t171 _ A5.out).mono ?_); rintro e w8 ⟨rfl, hb⟩; refine ⟨_, rfl, ?_⟩; have n0_ := Aside0.mk (below_step (by repeat (first | (with_reducible first | exact HB.out | apply below_alloc | apply pw_below_drewN | apply below_drew1) | exact HB.out)) hb); clear HB; have HB := n0_; clear n0_; (try clear hb); (try clear hb2); (try clear hk); (try clear hi)) | ((with_reducible refine gate_callee (f := 18) rfl ?_); refine goesL_ (some 18) rfl rfl Tryd.func18 (by kernel_rfl) rfl #[.string a0, .string a1] rfl (by (try simp only [List.map_toArray, List.map_cons, List.map_nil]); first | done | rfl | (simp only [List.length_drop, List.length_take]; rfl)) ?_; (with_reducible refine (impl_ValueOk.calls k a0 a1 t172 _ A6.out).mono ?_); rintro e w9 ⟨rfl, hb⟩; refine ⟨_, rfl, ?_⟩; have n0_ := Aside0.mk (below_step (by repeat (first | (with_reducible first | exact HB.out | apply below_alloc | apply pw_below_drewN | apply below_drew1) | exact HB.out)) hb); clear HB; have HB := n0_; clear n0_; (try clear hb); (try clear hb2); (try clear hk); (try clear hi)))
        go_ret
        exact ⟨by first | rfl | (simp [errW_none, errW_some] <;> rfl) | (simp [*, errW_none, errW_some] <;> rfl), by repeat (first | (with_reducible first | exact HB.out | apply below_alloc | apply pw_below_drewN | apply below_drew1) | exact HB.out)⟩
      · rw [if_neg c7] at H
        have c7b0 : (t172 != t171) = false := by simpa using c7
        (try (have c7b1 : decide (t172 = t171) = true := by simpa using c7))
        (try (have c7b2 : (t172 == t171) = true := by simpa using c7))
        clear c7
        obtain rfl := Option.some.inj H
        go_enter Tryd.func6, Tryd.ntmps6
        go_wp2_with (first | ((with_reducible refine gate_callee (f := 17) rfl ?_); refine goesL_ (some 15) rfl rfl Tryd.func17 (by kernel_rfl) rfl #[.string a0, .string a1] rfl (by (try simp only [List.map_toArray, List.map_cons, List.map_nil]); first | done | rfl | (simp only [List.length_drop, List.length_take]; rfl)) ?_; (with_reducible refine (spec_ValueOk.calls k a0 a1 t171 _ A5.out).mono ?_); rintro e w10 ⟨rfl, hb⟩; refine ⟨_, rfl, ?_⟩; have n0_ := Aside0.mk (below_step (by repeat (first | (with_reducible first | exact HB.out | apply below_alloc | apply pw_below_drewN | apply below_drew1) | exact HB.out)) hb); clear HB; have HB := n0_; clear n0_; (try clear hb); (try clear hb2); (try clear hk); (try clear hi)) | ((with_reducible refine gate_callee (f := 18) rfl ?_); refine goesL_ (some 18) rfl rfl Tryd.func18 (by kernel_rfl) rfl #[.string a0, .string a1] rfl (by (try simp only [List.map_toArray, List.map_cons, List.map_nil]); first | done | rfl | (simp only [List.length_drop, List.length_take]; rfl)) ?_; (with_reducible refine (impl_ValueOk.calls k a0 a1 t172 _ A6.out).mono ?_); rintro e w11 ⟨rfl, hb⟩; refine ⟨_, rfl, ?_⟩; have n0_ := Aside0.mk (below_step (by repeat (first | (with_reducible first | exact HB.out | apply below_alloc | apply pw_below_drewN | apply below_drew1) | exact HB.out)) hb); clear HB; have HB := n0_; clear n0_; (try clear hb); (try clear hb2); (try clear hk); (try clear hi)))
        go_ret
        exact ⟨by first | rfl | (simp [errW_none, errW_some] <;> rfl) | (simp [*, errW_none, errW_some] <;> rfl), by repeat (first | (with_reducible first | exact HB.out | apply below_alloc | apply pw_below_drewN | apply below_drew1) | exact HB.out)⟩

/-- THE ONE PURE STATEMENT of laws_FnExactValueOk: yours. -/
def laws_FnExactValueOk.Pure : Prop := ∀ (a0 : ByteArray) (a1 : ByteArray), a0.size ≤ 140737488351232 → a1.size ≤ 140737488351232 → ∃ k, laws_FnExactValueOk.f k a0 a1 = some true
theorem laws_FnExactValueOk.walk (P : laws_FnExactValueOk.Pure) (a0 : ByteArray) (a1 : ByteArray) (w : World) (w0 : a0.size ≤ 140737488351232) (w1 : a1.size ≤ 140737488351232) :
    Calls Tryd.prog 6 #[.string a0, .string a1] w fun e w' => e = .returned (.bool true) ∧ Below w.heap.size w w' := by
  obtain ⟨k, h⟩ := P a0 a1 w0 w1
  refine (laws_FnExactValueOk.calls k a0 a1 true w h).mono ?_
  rintro e w' ⟨rfl, hd⟩
  exact ⟨rfl, hd⟩

end Go.Proofs.YtklinldidfdnjaaDoor.PFnExactValueOk
