-- Laid by a program of this session: a turned copy of the kit's print, with contracts by hand beside.
import Derived.Test.YtoipkndeeeolcaaPFnExactPlainx0
import Derived.Test.YtoipkndeeeolcaaPFnExactPlainx1
import Derived.Test.YtoipkndeeeolcaaPFnExactPlainx4
namespace Go.Proofs.Ytoipkndeeeolcaa.PFnExactPlain
open Go.RowKit Go.Proofs.YtoipkndeeeolcaaW.PrintWords Go.Proofs.YtoipkndeeeolcaaW.PrintLast Go.Proofs.YtoipkndeeeolcaaW.PrintMore
attribute [local go_sem] max2_int min2_int max_two min_two max_three min_three max_four min_four   -- for this text's walks alone
set_option linter.unusedVariables false
set_option linter.unusedSimpArgs false

/-! ### spec_Plain: function 18 -/
theorem k45_heap : Kd.Heap k45 := Kd.heap_iso _ (Kd.heap_pair (Kd.heap_int _) (Kd.heap_pair Kd.heap_string (Kd.heap_int _)))
mutual
def spec_l7Plain.j0 : Nat → List (S45) → Bool → Int → Int → Bool → Option ((List (S45)))
  | 0, _, _, _, _, _ => none
  | k + 1, x0, x1, x5, x14, x21 => if x21 = true then (if x1 = true then (some (([(⟨wrap64 (5 - x5), (⟨#[]⟩ : ByteArray), 0⟩ : S45)] : List (S45)))) else (some x0)) else (if x14 = 4 then (if 1 ≤ (x0.length : Int) then ((spec_l7Plain.f k (x0.drop 1) (!x1)).bind fun t152 => (some t152)) else (none)) else (if x1 = true then (spec_l7Plain.j1 k x0 x1 (wrap64 (11 - x5))) else (spec_l7Plain.j1 k x0 x1 x5)))
def spec_l7Plain.j1 : Nat → List (S45) → Bool → Int → Option ((List (S45)))
  | 0, _, _, _ => none
  | k + 1, x0, x1, x5 => (spec_l7Starts.f k x0).bind fun t158 => (spec_l7Plain.l0 k x0 x1 x5 (([] : List (S45))) t158 0)
def spec_l7Plain.l0 : Nat → List (S45) → Bool → Int → List (S45) → List Int → Int → Option ((List (S45)))
  | 0, _, _, _, _, _, _ => none
  | k + 1, x0, x1, x5, x6, x7, x8 => if x8 < (x7.length : Int) then (if 0 ≤ x8 then (if 0 ≤ (rd x7 x8) then (if (rd x7 x8) ≤ (hi44 x0 (rd x7 x8)) then (if (hi44 x0 (rd x7 x8)) ≤ (x0.length : Int) ∧ (rd x7 x8) < (x0.length : Int) then ((spec_l7Plain.f k ((x0.take ((hi44 x0 (rd x7 x8)) : Int).toNat).drop ((rd x7 x8) : Int).toNat) x1).bind fun t167 => (if 0 < (t167.length : Int) then (if ((rd_T45 t167 0).f0) = x5 then (if 1 ≤ (t167.length : Int) then ((some (t167.drop 1 : List (S45))).bind fun y171 => (if x6.length + y171.length < 4398046511104 then (spec_l7Plain.l0 k x0 x1 x5 (x6 ++ y171) x7 (wrap64 (x8 + 1))) else (none))) else (none)) else (if x6.length + t167.length < 4398046511104 then (spec_l7Plain.l0 k x0 x1 x5 (x6 ++ t167) x7 (wrap64 (x8 + 1))) else (none))) else (none))) else (none)) else (none)) else (none)) else (none)) else ((some (([(⟨x5, (⟨#[]⟩ : ByteArray), (x6.length : Int)⟩ : S45)] : List (S45)) : List (S45))).bind fun y182 => (if y182.length + x6.length < 4398046511104 then (some (y182 ++ x6)) else (none)))
def spec_l7Plain.f : Nat → List (S45) → Bool → Option ((List (S45)))
  | 0, _, _ => none
  | k + 1, l0, a1 => if 0 < (l0.length : Int) then (if ((rd_T45 l0 0).f0) = 1 then (if a1 = true then ((spec_l7Make.f 4 l0).bind fun t141 => (some t141)) else (some l0)) else (if ((rd_T45 l0 0).f0) = 2 then (spec_l7Plain.j0 k l0 a1 ((rd_T45 l0 0).f0) ((rd_T45 l0 0).f0) (((rd_T45 l0 0).f0) == 2)) else (spec_l7Plain.j0 k l0 a1 ((rd_T45 l0 0).f0) ((rd_T45 l0 0).f0) (((rd_T45 l0 0).f0) == 3)))) else (none)
end
theorem spec_l7Plain.mono_l : ∀ k, (∀ y0 y1, LeO (spec_l7Plain.f k y0 y1) (spec_l7Plain.f (k + 1) y0 y1)) ∧ (∀ y0 y1 y2 y3 y4, LeO (spec_l7Plain.j0 k y0 y1 y2 y3 y4) (spec_l7Plain.j0 (k + 1) y0 y1 y2 y3 y4)) ∧ (∀ y0 y1 y2, LeO (spec_l7Plain.j1 k y0 y1 y2) (spec_l7Plain.j1 (k + 1) y0 y1 y2)) ∧ (∀ y0 y1 y2 y3 y4 y5, LeO (spec_l7Plain.l0 k y0 y1 y2 y3 y4 y5) (spec_l7Plain.l0 (k + 1) y0 y1 y2 y3 y4 y5))
  | 0 => ⟨fun _ _ r h => by simp [spec_l7Plain.f] at h, fun _ _ _ _ _ r h => by simp [spec_l7Plain.j0] at h, fun _ _ _ r h => by simp [spec_l7Plain.j1] at h, fun _ _ _ _ _ _ r h => by simp [spec_l7Plain.l0] at h⟩
  | k + 1 => by
    obtain ⟨ih0, ih1, ih2, ih3⟩ := spec_l7Plain.mono_l k
    refine ⟨?_, ?_, ?_, ?_⟩
    · intro y0 y1
      unfold spec_l7Plain.f
      repeat' first
      | (with_reducible exact ih0 _ _)
      | (with_reducible exact ih1 _ _ _ _ _)
      | (with_reducible exact ih2 _ _ _)
      | (with_reducible exact ih3 _ _ _ _ _ _)
      | (with_reducible exact spec_l7Starts.mono _ _)
      | (with_reducible exact LeO.refl _)
      | (with_reducible exact LeO.none _)
      | (with_reducible refine LeO.ite ?_ ?_)
      | (with_reducible refine LeO.bind ?_ (fun _ => ?_))
      | exact ih0 _ _
      | exact ih1 _ _ _ _ _
      | exact ih2 _ _ _
      | exact ih3 _ _ _ _ _ _
      | exact spec_l7Starts.mono _ _
      | exact LeO.none _
      | refine LeO.ite ?_ ?_
      | refine LeO.bind ?_ (fun _ => ?_)
    · intro y0 y1 y2 y3 y4
      unfold spec_l7Plain.j0
      repeat' first
      | (with_reducible exact ih0 _ _)
      | (with_reducible exact ih1 _ _ _ _ _)
      | (with_reducible exact ih2 _ _ _)
      | (with_reducible exact ih3 _ _ _ _ _ _)
      | (with_reducible exact spec_l7Starts.mono _ _)
      | (with_reducible exact LeO.refl _)
      | (with_reducible exact LeO.none _)
      | (with_reducible refine LeO.ite ?_ ?_)
      | (with_reducible refine LeO.bind ?_ (fun _ => ?_))
      | exact ih0 _ _
      | exact ih1 _ _ _ _ _
      | exact ih2 _ _ _
      | exact ih3 _ _ _ _ _ _
      | exact spec_l7Starts.mono _ _
      | exact LeO.none _
      | refine LeO.ite ?_ ?_
      | refine LeO.bind ?_ (fun _ => ?_)
    · intro y0 y1 y2
      unfold spec_l7Plain.j1
      repeat' first
      | (with_reducible exact ih0 _ _)
      | (with_reducible exact ih1 _ _ _ _ _)
      | (with_reducible exact ih2 _ _ _)
      | (with_reducible exact ih3 _ _ _ _ _ _)
      | (with_reducible exact spec_l7Starts.mono _ _)
      | (with_reducible exact LeO.refl _)
      | (with_reducible exact LeO.none _)
      | (with_reducible refine LeO.ite ?_ ?_)
      | (with_reducible refine LeO.bind ?_ (fun _ => ?_))
      | exact ih0 _ _
      | exact ih1 _ _ _ _ _
      | exact ih2 _ _ _
      | exact ih3 _ _ _ _ _ _
      | exact spec_l7Starts.mono _ _
      | exact LeO.none _
      | refine LeO.ite ?_ ?_
      | refine LeO.bind ?_ (fun _ => ?_)
    · intro y0 y1 y2 y3 y4 y5
      unfold spec_l7Plain.l0
      repeat' first
      | (with_reducible exact ih0 _ _)
      | (with_reducible exact ih1 _ _ _ _ _)
      | (with_reducible exact ih2 _ _ _)
      | (with_reducible exact ih3 _ _ _ _ _ _)
      | (with_reducible exact spec_l7Starts.mono _ _)
      | (with_reducible exact LeO.refl _)
      | (with_reducible exact LeO.none _)
      | (with_reducible refine LeO.ite ?_ ?_)
      | (with_reducible refine LeO.bind ?_ (fun _ => ?_))
      | exact ih0 _ _
      | exact ih1 _ _ _ _ _
      | exact ih2 _ _ _
      | exact ih3 _ _ _ _ _ _
      | exact spec_l7Starts.mono _ _
      | exact LeO.none _
      | refine LeO.ite ?_ ?_
      | refine LeO.bind ?_ (fun _ => ?_)
theorem spec_l7Plain.mono : ∀ a0 a1 k, LeO (spec_l7Plain.f k a0 a1) (spec_l7Plain.f (k + 1) a0 a1) := by
  intro a0 a1 k
  obtain ⟨ih0, ih1, ih2, ih3⟩ := spec_l7Plain.mono_l k
  exact ih0 a0 a1
set_option maxHeartbeats 8000000 in
set_option maxRecDepth 100000 in
theorem spec_l7Plain.calls (k : Nat) : ∀ (P0_ : Nat → Prop) (A0 : Option Addr) (c0 : Nat) (l0 : List (S45)) (a1 : Bool) (r : List (S45)) (w : World) (hs0 : Kd.V k45 45 w w.heap.size (fun k_ => P0_ k_) (.slice A0 l0.length c0) l0) (h : spec_l7Plain.f k l0 a1 = some r),
    Calls Try.prog 34 #[.slice A0 l0.length c0, .bool a1] w fun e w' => ∃ v0_ : Value, e = .returned (v0_) ∧ Kd.V k45 45 w' w.heap.size (fun k_ => (P0_ k_ ∨ w.heap.size ≤ k_)) v0_ r ∧ Below w.heap.size w w' := by
  induction k using Nat.strongRecOn with
  | _ k ih =>
  intro P0_ A0 c0 l0 a1 r w hs0 h
  cases k with
  | zero => exact absurd h (by simp [spec_l7Plain.f])
  | succ k =>
  simp only [spec_l7Plain.f] at h
  have hu45 := Try.underlying45
  have HO0 := Aside0.mk (show Kd.V k45 45 w w.heap.size (fun k_ => (P0_ k_ ∨ w.heap.size ≤ k_)) (.slice A0 l0.length c0) l0 from Kd.V_mono hs0 (fun k_ hk => .inl hk))
  have HB := Aside0.mk (Below.refl w.heap.size w)
  have H : (if 0 < (l0.length : Int) then (if ((rd_T45 l0 0).f0) = 1 then (if a1 = true then ((spec_l7Make.f 4 l0).bind fun t141 => (some t141)) else (some l0)) else (if ((rd_T45 l0 0).f0) = 2 then (spec_l7Plain.j0 k l0 a1 ((rd_T45 l0 0).f0) ((rd_T45 l0 0).f0) (((rd_T45 l0 0).f0) == 2)) else (spec_l7Plain.j0 k l0 a1 ((rd_T45 l0 0).f0) ((rd_T45 l0 0).f0) (((rd_T45 l0 0).f0) == 3)))) else (none)) = some r := h
  clear h
  by_cases c3 : 0 < (l0.length : Int)
  · rw [if_pos c3] at H
    have c3b0 : decide (0 < (l0.length : Int)) = true := decide_eq_true c3
    have c3b1 : decide (0 < l0.length) = true := decide_eq_true (by omega)
    clear c3
    by_cases c4 : ((rd_T45 l0 0).f0) = 1
    · rw [if_pos c4] at H
      have c4b0 : (((rd_T45 l0 0).f0) == 1) = true := beq_iff_eq.mpr c4
      have c4b1 : (((rd_T45 l0 0).f0) != 1) = false := bne_eq_false_iff_eq.mpr c4
      clear c4
      by_cases c5 : a1 = true
      · subst c5
        have H1 : ((spec_l7Make.f 4 l0).bind fun t141 => (some t141)) = some r := by rw [if_pos rfl] at H; exact H
        clear H
        have H := H1
        clear H1
        replace H := Option.bind_eq_some_iff.mp H
        obtain ⟨t141, A60, H⟩ := H
        replace H : (some t141) = some r := H
        have A6 := Aside0.mk A60
        clear A60
        obtain rfl := Option.some.inj H
        have p140 : 0 ≤ (0 : Int) := (by omega)
        have q140 : 0 < (l0.length : Int) := of_decide_eq_true (by first | (with_reducible assumption) | assumption)
        obtain ⟨ad140, e140, hx140_0, hx140_1, hx140_2⟩ := at_T45 (Kd.V_reads' HO0.out).2.2 0 p140 q140
        cases e140
        have qi140 : (0 < l0.length) = True := eq_true (by omega)
        (try rw [show ((0 : Int)).toNat = 0 from rfl] at hx140_0)
        (try rw [show 0 * 3 = 0 from rfl] at hx140_0)
        (try rw [Addr.add_zero'] at hx140_0)
        (try rw [show ((0 : Int)).toNat = 0 from rfl] at hx140_1)
        (try rw [show 0 * 3 = 0 from rfl] at hx140_1)
        (try rw [Addr.add_zero'] at hx140_1)
        (try rw [show ((0 : Int)).toNat = 0 from rfl] at hx140_2)
        (try rw [show 0 * 3 = 0 from rfl] at hx140_2)
        (try rw [Addr.add_zero'] at hx140_2)
        replace p140 := eq_true p140
        replace q140 := eq_true q140
        go_enter Try.func34, Try.ntmps34
        go_wp2_with (first | ((with_reducible refine gate_callee (f := 50) rfl ?_); refine goesL_ (some 19) rfl rfl Try.func50 (by kernel_rfl) rfl #[.int .i64 4, .slice (some ad140) l0.length c0] rfl (by (try simp only [List.map_toArray, List.map_cons, List.map_nil]); first | done | rfl | (simp only [List.length_drop, List.length_take]; rfl)) ?_; (with_reducible refine (spec_l7Make.calls 4 _ _ l0 t141 _ ?side1 ?side2 A6.out).mono ?_); (case side1 => repeat (first | exact (Kd.V_reads' HO0.out).2.2 | (with_reducible refine Kd.C_alloc ?_ _) | (with_reducible refine Kd.C_drewN ?_ _) | (with_reducible refine Kd.C_drew ?_))); (case side2 => exact (Kd.V_reads' HO0.out).2.1); rintro e w7 ⟨v142, rfl, ho0, hb⟩; refine ⟨_, rfl, ?_⟩; have n0_ := Aside0.mk (Kd.V_elder' (by (with_reducible repeat (first | apply Kd.V_alloc | apply Kd.V_drewN | apply Kd.V_drew)); exact HO0.out) (Kd.R_base ho0) hb); have n1_ := Aside0.mk (Kd.R_lower (Kd.R_newM (M := fun k_ => (w.heap.size ≤ k_)) ho0 (below_size (by repeat (first | (with_reducible first | exact HB.out | apply below_alloc | apply pw_below_drewN | apply below_drew1) | exact HB.out))) (fun k_ h_ => h_)) (below_size (by repeat (first | (with_reducible first | exact HB.out | apply below_alloc | apply pw_below_drewN | apply below_drew1) | exact HB.out)))); have n2_ := Aside0.mk (below_step (by repeat (first | (with_reducible first | exact HB.out | apply below_alloc | apply pw_below_drewN | apply below_drew1) | exact HB.out)) hb); clear HO0; clear HB; have HO0 := n0_; have HO143 := n1_; have HB := n2_; clear n0_ n1_ n2_; (try clear hb); (try clear hb2); (try clear hk); (try clear hi); (try clear ho0)))
        go_ret
        exact ⟨_, by first | rfl | (simp [errW_none, errW_some] <;> rfl) | (simp [*, errW_none, errW_some] <;> rfl), Kd.V_mono (Kd.R_V (by (with_reducible repeat (first | apply Kd.R_alloc | apply Kd.R_drewN | apply Kd.R_drew)); exact Kd.R_mono HO143.out (fun _ hk => hk.1))) (fun k_ hk => by first | exact ⟨(.inr (hk.1)), hk.2⟩ | exact (.inr (hk))), by repeat (first | (with_reducible first | exact HB.out | apply below_alloc | apply pw_below_drewN | apply below_drew1) | exact HB.out)⟩
      · replace c5 := Bool.eq_false_iff.mpr c5
        subst c5
        have H1 : (some l0) = some r := by rw [if_neg (show ¬ (false = true) by decide)] at H; exact H
        clear H
        have H := H1
        clear H1
        obtain rfl := Option.some.inj H
        have p140 : 0 ≤ (0 : Int) := (by omega)
        have q140 : 0 < (l0.length : Int) := of_decide_eq_true (by first | (with_reducible assumption) | assumption)
        obtain ⟨ad140, e140, hx140_0, hx140_1, hx140_2⟩ := at_T45 (Kd.V_reads' HO0.out).2.2 0 p140 q140
        cases e140
        have qi140 : (0 < l0.length) = True := eq_true (by omega)
        (try rw [show ((0 : Int)).toNat = 0 from rfl] at hx140_0)
        (try rw [show 0 * 3 = 0 from rfl] at hx140_0)
        (try rw [Addr.add_zero'] at hx140_0)
        (try rw [show ((0 : Int)).toNat = 0 from rfl] at hx140_1)
        (try rw [show 0 * 3 = 0 from rfl] at hx140_1)
        (try rw [Addr.add_zero'] at hx140_1)
        (try rw [show ((0 : Int)).toNat = 0 from rfl] at hx140_2)
        (try rw [show 0 * 3 = 0 from rfl] at hx140_2)
        (try rw [Addr.add_zero'] at hx140_2)
        replace p140 := eq_true p140
        replace q140 := eq_true q140
        go_enter Try.func34, Try.ntmps34
        go_wp2
        go_ret
        exact ⟨_, by first | rfl | (simp [errW_none, errW_some] <;> rfl) | (simp [*, errW_none, errW_some] <;> rfl), by (with_reducible repeat (first | apply Kd.V_alloc | apply Kd.V_drewN | apply Kd.V_drew)); exact HO0.out, by repeat (first | (with_reducible first | exact HB.out | apply below_alloc | apply pw_below_drewN | apply below_drew1) | exact HB.out)⟩
    · rw [if_neg c4] at H
      have c4b0 : (((rd_T45 l0 0).f0) == 1) = false := beq_eq_false_iff_ne.mpr c4
      have c4b1 : (((rd_T45 l0 0).f0) != 1) = true := bne_iff_ne.mpr c4
      have HC8 := Aside0.mk H
      clear H
      have p140 : 0 ≤ (0 : Int) := (by omega)
      have q140 : 0 < (l0.length : Int) := of_decide_eq_true (by first | (with_reducible assumption) | assumption)
      obtain ⟨ad140, e140, hx140_0, hx140_1, hx140_2⟩ := at_T45 (Kd.V_reads' HO0.out).2.2 0 p140 q140
      cases e140
      have qi140 : (0 < l0.length) = True := eq_true (by omega)
      (try rw [show ((0 : Int)).toNat = 0 from rfl] at hx140_0)
      (try rw [show 0 * 3 = 0 from rfl] at hx140_0)
      (try rw [Addr.add_zero'] at hx140_0)
      (try rw [show ((0 : Int)).toNat = 0 from rfl] at hx140_1)
      (try rw [show 0 * 3 = 0 from rfl] at hx140_1)
      (try rw [Addr.add_zero'] at hx140_1)
      (try rw [show ((0 : Int)).toNat = 0 from rfl] at hx140_2)
      (try rw [show 0 * 3 = 0 from rfl] at hx140_2)
      (try rw [Addr.add_zero'] at hx140_2)
      replace p140 := eq_true p140
      replace q140 := eq_true q140
      go_enter Try.func34, Try.ntmps34
      go_upto_if 21 with (fail)
      go_cut [21] (fun v21 wc => ∃ (kq : Nat) (x21_7 : Bool), v21 = .bool x21_7 ∧ Aside0 (spec_l7Plain.j0 kq l0 a1 ((rd_T45 l0 0).f0) ((rd_T45 l0 0).f0) x21_7 = some r) ∧ Aside0 (kq ≤ k) ∧ Aside0 (Kd.V k45 45 wc w.heap.size (fun k_ => (P0_ k_ ∨ w.heap.size ≤ k_)) (.slice (some ad140) l0.length c0) l0) ∧ Aside0 (Below w.heap.size w wc))
      case first =>
        have H := HC8.out
        clear HC8
        by_cases c9 : ((rd_T45 l0 0).f0) = 2
        · rw [if_pos c9] at H
          have c9b0 : (((rd_T45 l0 0).f0) == 2) = true := beq_iff_eq.mpr c9
          have c9b1 : (((rd_T45 l0 0).f0) != 2) = false := bne_eq_false_iff_eq.mpr c9
          clear c9
          (first | rw [c9b0] | (simp only [i64_w, i32_w]; rw [c9b0]) | skip)
          have H' := Aside0.mk H
          clear H
          go_wp2
          go_meet
          case rel => exact ⟨_, ((((rd_T45 l0 0).f0) == 2)), (by first | rfl | (simp; done) | (simp [*]; done)), H', ⟨by first | omega | exact Nat.le_refl _⟩, ⟨by (with_reducible repeat (first | apply Kd.V_alloc | apply Kd.V_drewN | apply Kd.V_drew)); exact HO0.out⟩, ⟨by repeat (first | (with_reducible first | exact HB.out | apply below_alloc | apply pw_below_drewN | apply below_drew1) | exact HB.out)⟩⟩
        · rw [if_neg c9] at H
          have c9b0 : (((rd_T45 l0 0).f0) == 2) = false := beq_eq_false_iff_ne.mpr c9
          have c9b1 : (((rd_T45 l0 0).f0) != 2) = true := bne_iff_ne.mpr c9
          (first | rw [c9b0] | (simp only [i64_w, i32_w]; rw [c9b0]) | skip)
          have H' := Aside0.mk H
          clear H
          go_wp2
          go_meet
          case rel => exact ⟨_, ((((rd_T45 l0 0).f0) == 3)), (by first | rfl | (simp; done) | (simp [*]; done)), H', ⟨by first | omega | exact Nat.le_refl _⟩, ⟨by (with_reducible repeat (first | apply Kd.V_alloc | apply Kd.V_drewN | apply Kd.V_drew)); exact HO0.out⟩, ⟨by repeat (first | (with_reducible first | exact HB.out | apply below_alloc | apply pw_below_drewN | apply below_drew1) | exact HB.out)⟩⟩
      case rest =>
        clear HC8
        try clear p1
        try clear q1
        try clear hx1
        try clear qi1
        try clear p2
        try clear c3
        try clear c3b0
        try clear c3b1
        try clear c4
        try clear c4b0
        try clear c4b1
        try clear c5
        try clear c9
        try clear c9b0
        try clear c9b1
        try clear hx140_0
        try clear hx140_1
        try clear hx140_2
        try clear p140
        try clear q140
        obtain ⟨kq, x21_7, rfl, HA, HJ7, HO_0, HB⟩ := hcut
        cases kq with
        | zero => exact absurd HA.out (by simp [spec_l7Plain.j0])
        | succ kj7 =>
          have H := HA.out
          clear HA
          simp only [spec_l7Plain.j0] at H
          by_cases c10 : x21_7 = true
          · subst c10
            have H1 : (if a1 = true then (some (([(⟨wrap64 (5 - ((rd_T45 l0 0).f0)), (⟨#[]⟩ : ByteArray), 0⟩ : S45)] : List (S45)))) else (some l0)) = some r := by rw [if_pos rfl] at H; exact H
            clear H
            have H := H1
            clear H1
            by_cases c11 : a1 = true
            · subst c11
              have H1 : (some (([(⟨wrap64 (5 - ((rd_T45 l0 0).f0)), (⟨#[]⟩ : ByteArray), 0⟩ : S45)] : List (S45)))) = some r := by rw [if_pos rfl] at H; exact H
              clear H
              have H := H1
              clear H1
              obtain ⟨y144, hy144⟩ : ∃ y_ : List (S45), y_ = (([(⟨wrap64 (5 - ((rd_T45 l0 0).f0)), (⟨#[]⟩ : ByteArray), 0⟩ : S45)] : List (S45))) := ⟨_, rfl⟩
              replace H : (some y144) = some r := by first | (rw [hy144]; with_reducible exact H) | (have H2_ := (Option.bind_some _ _).symm.trans H; rw [hy144]; with_reducible exact H2_) | (have H2_ := (Option.bind_some _ _).symm.trans H; with_reducible exact H2_) | with_reducible exact H | (rw [hy144]; exact H) | exact H
              have Ny144 := Aside0.mk hy144
              clear hy144
              obtain rfl := Option.some.inj H
              go_wp2_with (first | ((with_reducible refine gate_dst (N := 28) rfl ?_); refine Kd.R_lit k45 _ 45 ?hg (N := 28) ?hd (xs := ([(⟨wrap64 (5 - ((rd_T45 l0 0).f0)), (⟨#[]⟩ : ByteArray), 0⟩ : S45)] : List (S45))) (inner := [.int .i64 (wrap64 (5 - ((rd_T45 l0 0).f0))), .string (⟨#[]⟩ : ByteArray), .int .i64 0]) (ok := fun _ => True) (okp := fun _ => True) ?hr ?hp (fun _ hk => hk) trivial (Below.refl _ _) (Nat.le_refl _) (by simp) ?_; (case hd => rfl); (case hg => rfl); (case hr => first | (go_simp; done) | (go_simp; rfl)); (case hp => exact (Reps.c3 (show Kd.M k45 _ _ _ (⟨wrap64 (5 - ((rd_T45 l0 0).f0)), (⟨#[]⟩ : ByteArray), 0⟩ : S45) [.int .i64 (wrap64 (5 - ((rd_T45 l0 0).f0))), .string (⟨#[]⟩ : ByteArray), .int .i64 0] from (k45_mkM _ _ _ (⟨wrap64 (5 - ((rd_T45 l0 0).f0)), (⟨#[]⟩ : ByteArray), 0⟩ : S45) )) (Reps.none _ _))); intro v145 w12 ho13 hb hg_ hnew_; clear hg_ hnew_; (first | rw [← Ny144.out] at ho13 | (simp only [Int.reduceToNat] at ho13; rw [← Ny144.out] at ho13)); have n0_ := Aside0.mk (Kd.V_elder' (by (with_reducible repeat (first | apply Kd.V_alloc | apply Kd.V_drewN | apply Kd.V_drew)); exact HO_0.out) (Kd.R_base ho13) hb); have n1_ := Aside0.mk (Kd.R_lower (Kd.R_newM (M := fun k_ => (w.heap.size ≤ k_)) ho13 (below_size (by repeat (first | (with_reducible first | exact HB.out | apply below_alloc | apply pw_below_drewN | apply below_drew1) | exact HB.out))) (fun k_ h_ => h_)) (below_size (by repeat (first | (with_reducible first | exact HB.out | apply below_alloc | apply pw_below_drewN | apply below_drew1) | exact HB.out)))); have n2_ := Aside0.mk (below_step (by repeat (first | (with_reducible first | exact HB.out | apply below_alloc | apply pw_below_drewN | apply below_drew1) | exact HB.out)) hb); clear HO_0; clear HB; have HO_0 := n0_; have HO146 := n1_; have HB := n2_; clear n0_ n1_ n2_; clear hb ho13))
              go_ret
              exact ⟨_, by first | rfl | (simp [errW_none, errW_some] <;> rfl) | (simp [*, errW_none, errW_some] <;> rfl), Kd.V_mono (Kd.R_V (by (with_reducible repeat (first | apply Kd.R_alloc | apply Kd.R_drewN | apply Kd.R_drew)); exact Kd.R_mono HO146.out (fun _ hk => hk.1))) (fun k_ hk => by first | exact ⟨(.inr (hk.1)), hk.2⟩ | exact (.inr (hk))), by repeat (first | (with_reducible first | exact HB.out | apply below_alloc | apply pw_below_drewN | apply below_drew1) | exact HB.out)⟩
            · replace c11 := Bool.eq_false_iff.mpr c11
              subst c11
              have H1 : (some l0) = some r := by rw [if_neg (show ¬ (false = true) by decide)] at H; exact H
              clear H
              have H := H1
              clear H1
              obtain rfl := Option.some.inj H
              go_wp2
              go_ret
              exact ⟨_, by first | rfl | (simp [errW_none, errW_some] <;> rfl) | (simp [*, errW_none, errW_some] <;> rfl), by (with_reducible repeat (first | apply Kd.V_alloc | apply Kd.V_drewN | apply Kd.V_drew)); exact HO_0.out, by repeat (first | (with_reducible first | exact HB.out | apply below_alloc | apply pw_below_drewN | apply below_drew1) | exact HB.out)⟩
          · replace c10 := Bool.eq_false_iff.mpr c10
            subst c10
            have H1 : (if ((rd_T45 l0 0).f0) = 4 then (if 1 ≤ (l0.length : Int) then ((spec_l7Plain.f kj7 (l0.drop 1) (!a1)).bind fun t152 => (some t152)) else (none)) else (if a1 = true then (spec_l7Plain.j1 kj7 l0 a1 (wrap64 (11 - ((rd_T45 l0 0).f0)))) else (spec_l7Plain.j1 kj7 l0 a1 ((rd_T45 l0 0).f0)))) = some r := by rw [if_neg (show ¬ (false = true) by decide)] at H; exact H
            clear H
            have H := H1
            clear H1
            by_cases c14 : ((rd_T45 l0 0).f0) = 4
            · rw [if_pos c14] at H
              have c14b0 : (((rd_T45 l0 0).f0) == 4) = true := beq_iff_eq.mpr c14
              have c14b1 : (((rd_T45 l0 0).f0) != 4) = false := bne_eq_false_iff_eq.mpr c14
              clear c14
              by_cases c15 : 1 ≤ (l0.length : Int)
              · rw [if_pos c15] at H
                have c15b0 := eq_true c15
                have c15b1 : decide (1 ≤ (l0.length : Int)) = true := decide_eq_true c15
                clear c15
                obtain ⟨y147, hy147⟩ : ∃ y_ : List (S45), y_ = (l0.drop 1) := ⟨_, rfl⟩
                replace H : ((spec_l7Plain.f kj7 y147 (!a1)).bind fun t152 => (some t152)) = some r := by first | (rw [hy147]; with_reducible exact H) | (have H2_ := (Option.bind_some _ _).symm.trans H; rw [hy147]; with_reducible exact H2_) | (have H2_ := (Option.bind_some _ _).symm.trans H; with_reducible exact H2_) | with_reducible exact H | (rw [hy147]; exact H) | exact H
                have Ny147 := Aside0.mk hy147
                clear hy147
                replace H := Option.bind_eq_some_iff.mp H
                obtain ⟨t152, A160, H⟩ := H
                replace H : (some t152) = some r := H
                have A16 := Aside0.mk A160
                clear A160
                obtain rfl := Option.some.inj H
                have q17 : (1 : Int) ≤ ((l0.length : Int) : Int) := of_decide_eq_true (by first | (with_reducible assumption) | assumption)
                obtain ⟨i017, hi017, _, hsz17, _⟩ := info_parts info45
                have hroom17 : l0.length ≤ c0 := (Kd.V_reads' HO_0.out).2.1
                have hC17 : Kd.F k45 _ _ (some ad140) l0.length l0 := (Kd.V_at (base := w.heap.size) HO_0.out).2.2
                have hcut17 := cut_from (P := Try.prog) 25 45 .i64 Try.underlying25 hi017 3 hsz17 (some ad140) l0.length c0 1 (by omega) q17
                have hr17 := Kd.F_cut (m := (1 : Int).toNat) (c := c0) hC17 (by omega) hroom17
                obtain ⟨A17, hA17⟩ : ∃ A1, A1 = (if c0 = (1 : Int).toNat then (some ad140) else ((some ad140) : Option Addr).map (·.add ((1 : Int).toNat * 3))) := ⟨_, rfl⟩
                obtain ⟨c17, hc17⟩ : ∃ c1, c1 = c0 - (1 : Int).toNat := ⟨_, rfl⟩
                have hy17 : y147.length = l0.length - (1 : Int).toNat := (by rw [Ny147.out, List.length_drop] <;> omega)
                rw [show (l0).drop (1 : Int).toNat = y147 from Ny147.out.symm] at hr17
                replace hr17 : Kd.F k45 _ _ A17 y147.length y147 := (by rw [hA17]; exact hr17)
                rw [← hy17, ← hA17, ← hc17] at hcut17
                have HO151 := Aside0.mk (show Kd.V k45 45 _ w.heap.size _ (.slice A17 y147.length c17) y147 from Kd.V_mk (by rw [hy17, hc17]; exact Nat.sub_le_sub_right hroom17 _) hr17)
                have HC151 := Aside0.mk (show y147.length ≤ c17 from by rw [hy17, hc17]; exact Nat.sub_le_sub_right hroom17 _)
                clear hr17 hC17 hroom17 hi017 hsz17 hc17
                have KY17 := Aside0.mk hy17
                have KA17 := Aside0.mk hA17
                clear hy17 hA17
                replace q17 := eq_true q17
                go_wp2_with (first | ((with_reducible refine gate_callee (f := 34) rfl ?_); refine goesL_ (some 36) rfl rfl Try.func34 (by kernel_rfl) rfl #[.slice A17 y147.length c17, .bool (!a1)] rfl (by (try simp only [List.map_toArray, List.map_cons, List.map_nil]); first | done | rfl | (simp only [List.length_drop, List.length_take]; rfl)) ?_; (with_reducible refine (ih kj7 (by have := HJ7.out; omega) (fun k_ => (P0_ k_ ∨ w.heap.size ≤ k_)) _ _ y147 (!a1) t152 _ ?side1 A16.out).mono ?_); (case side1 => exact HO151.out); rintro e w18 ⟨v153, rfl, ho0, hb⟩; refine ⟨_, rfl, ?_⟩; have n0_ := Aside0.mk (Kd.V_below (by (with_reducible repeat (first | apply Kd.V_alloc | apply Kd.V_drewN | apply Kd.V_drew)); exact HO_0.out) hb); have n1_ := Aside0.mk (Kd.V_below (by (with_reducible repeat (first | apply Kd.V_alloc | apply Kd.V_drewN | apply Kd.V_drew)); exact HO151.out) hb); have n2_ := Aside0.mk (Kd.V_lower (Kd.V_mono (ok' := fun k_ => (P0_ k_ ∨ w.heap.size ≤ k_)) ho0 (fun k_ hk_ => Or.elim hk_ (fun hs_ => hs_) (fun hn_ => (.inr (Nat.le_trans (below_size (by repeat (first | (with_reducible first | exact HB.out | apply below_alloc | apply pw_below_drewN | apply below_drew1) | exact HB.out))) hn_))))) (below_size (by repeat (first | (with_reducible first | exact HB.out | apply below_alloc | apply pw_below_drewN | apply below_drew1) | exact HB.out)))); have n3_ := Aside0.mk (below_step (by repeat (first | (with_reducible first | exact HB.out | apply below_alloc | apply pw_below_drewN | apply below_drew1) | exact HB.out)) hb); clear HO_0; clear HO151; clear HB; have HO_0 := n0_; have HO151 := n1_; have HO154 := n2_; have HB := n3_; clear n0_ n1_ n2_ n3_; (try clear hb); (try clear hb2); (try clear hk); (try clear hi); (try clear ho0)))
                go_ret
                exact ⟨_, by first | rfl | (simp [errW_none, errW_some] <;> rfl) | (simp [*, errW_none, errW_some] <;> rfl), by (with_reducible repeat (first | apply Kd.V_alloc | apply Kd.V_drewN | apply Kd.V_drew)); exact HO154.out, by repeat (first | (with_reducible first | exact HB.out | apply below_alloc | apply pw_below_drewN | apply below_drew1) | exact HB.out)⟩
              · rw [if_neg c15] at H
                exact absurd H (by simp)
            · rw [if_neg c14] at H
              have c14b0 : (((rd_T45 l0 0).f0) == 4) = false := beq_eq_false_iff_ne.mpr c14
              have c14b1 : (((rd_T45 l0 0).f0) != 4) = true := bne_iff_ne.mpr c14
              have HC19 := Aside0.mk H
              clear H
              go_upto_if 37 with (fail)
              go_cut [5] (fun v5 wc => ∃ (kq : Nat) (x5_18 : Int), v5 = .int .i64 x5_18 ∧ Aside0 (spec_l7Plain.j1 kq l0 a1 x5_18 = some r) ∧ Aside0 (kq ≤ kj7) ∧ Aside0 (Kd.V k45 45 wc w.heap.size (fun k_ => (P0_ k_ ∨ w.heap.size ≤ k_)) (.slice (some ad140) l0.length c0) l0) ∧ Aside0 (Below w.heap.size w wc))
              case first =>
                have H := HC19.out
                clear HC19
                by_cases c20 : a1 = true
                · subst c20
                  have H1 : (spec_l7Plain.j1 kj7 l0 true (wrap64 (11 - ((rd_T45 l0 0).f0)))) = some r := by rw [if_pos rfl] at H; exact H
                  clear H
                  have H := H1
                  clear H1
                  have H' := Aside0.mk H
                  clear H
                  go_wp2
                  go_meet
                  case rel => exact ⟨_, (wrap64 (11 - ((rd_T45 l0 0).f0))), (by first | rfl | (simp; done) | (simp [*]; done)), H', ⟨by have := HJ7.out; first | omega | exact Nat.le_refl _⟩, ⟨by (with_reducible repeat (first | apply Kd.V_alloc | apply Kd.V_drewN | apply Kd.V_drew)); exact HO_0.out⟩, ⟨by repeat (first | (with_reducible first | exact HB.out | apply below_alloc | apply pw_below_drewN | apply below_drew1) | exact HB.out)⟩⟩
                · replace c20 := Bool.eq_false_iff.mpr c20
                  subst c20
                  have H1 : (spec_l7Plain.j1 kj7 l0 false ((rd_T45 l0 0).f0)) = some r := by rw [if_neg (show ¬ (false = true) by decide)] at H; exact H
                  clear H
                  have H := H1
                  clear H1
                  have H' := Aside0.mk H
                  clear H
                  go_wp2
                  go_meet
                  case rel => exact ⟨_, (((rd_T45 l0 0).f0)), (by first | rfl | (simp; done) | (simp [*]; done)), H', ⟨by have := HJ7.out; first | omega | exact Nat.le_refl _⟩, ⟨by (with_reducible repeat (first | apply Kd.V_alloc | apply Kd.V_drewN | apply Kd.V_drew)); exact HO_0.out⟩, ⟨by repeat (first | (with_reducible first | exact HB.out | apply below_alloc | apply pw_below_drewN | apply below_drew1) | exact HB.out)⟩⟩
              case rest =>
                clear HC19
                try clear c1
                try clear p1
                try clear q1
                try clear hx1
                try clear qi1
                try clear c2
                try clear p2
                try clear c3
                try clear c3b0
                try clear c3b1
                try clear c4
                try clear c4b0
                try clear c4b1
                try clear c5
                try clear p6
                try clear c9
                try clear c9b0
                try clear c9b1
                try clear c10
                try clear c11
                try clear c14
                try clear c14b0
                try clear c14b1
                try clear p14
                try clear q14
                try clear hx14
                try clear qi14
                try clear c15
                try clear c15b0
                try clear c15b1
                try clear c17
                try clear q17
                try clear c20
                try clear hx140_0
                try clear hx140_1
                try clear hx140_2
                try clear p1
                try clear p140
                try clear p2
                try clear q1
                try clear q140
                try clear q17
                obtain ⟨kq, x5_18, rfl, HA, HJ18, HO_0, HB⟩ := hcut
                cases kq with
                | zero => exact absurd HA.out (by simp [spec_l7Plain.j1])
                | succ kj18 =>
                  have H := HA.out
                  clear HA
                  simp only [spec_l7Plain.j1] at H
                  obtain ⟨y155, hy155⟩ : ∃ y_ : List (S45), y_ = (([] : List (S45))) := ⟨_, rfl⟩
                  replace H : ((spec_l7Starts.f kj18 l0).bind fun t158 => (spec_l7Plain.l0 kj18 l0 a1 x5_18 y155 t158 0)) = some r := by first | (rw [hy155]; with_reducible exact H) | (have H2_ := (Option.bind_some _ _).symm.trans H; rw [hy155]; with_reducible exact H2_) | (have H2_ := (Option.bind_some _ _).symm.trans H; with_reducible exact H2_) | with_reducible exact H | (rw [hy155]; exact H) | exact H
                  have Ny155 := Aside0.mk hy155
                  clear hy155
                  replace H := Option.bind_eq_some_iff.mp H
                  obtain ⟨t158, A210, H⟩ := H
                  replace H : (spec_l7Plain.l0 kj18 l0 a1 x5_18 y155 t158 0) = some r := H
                  have A21 := Aside0.mk A210
                  clear A210
                  have H' := Aside0.mk H
                  clear H
                  go_wp2_with (first | ((with_reducible refine gate_dst (N := 40) rfl ?_); refine Kd.R_lit k45 _ 45 ?hg (N := 40) ?hd (xs := ([] : List (S45))) (inner := []) (ok := fun _ => True) (okp := fun _ => True) ?hr ?hp (fun _ hk => hk) trivial (Below.refl _ _) (Nat.le_refl _) (by simp) ?_; (case hd => rfl); (case hg => rfl); (case hr => first | (go_simp; done) | (go_simp; rfl)); (case hp => exact (Reps.none _ _)); intro v156 w22 ho23 hb hg_ hnew_; clear hg_ hnew_; (first | rw [← Ny155.out] at ho23 | (simp only [Int.reduceToNat] at ho23; rw [← Ny155.out] at ho23)); have n0_ := Aside0.mk (Kd.V_elder' (by (with_reducible repeat (first | apply Kd.V_alloc | apply Kd.V_drewN | apply Kd.V_drew)); exact HO_0.out) (Kd.R_base ho23) hb); have n1_ := Aside0.mk (Kd.R_lower (Kd.R_newM (M := fun k_ => (w.heap.size ≤ k_)) ho23 (below_size (by repeat (first | (with_reducible first | exact HB.out | apply below_alloc | apply pw_below_drewN | apply below_drew1) | exact HB.out))) (fun k_ h_ => h_)) (below_size (by repeat (first | (with_reducible first | exact HB.out | apply below_alloc | apply pw_below_drewN | apply below_drew1) | exact HB.out)))); have n2_ := Aside0.mk (below_step (by repeat (first | (with_reducible first | exact HB.out | apply below_alloc | apply pw_below_drewN | apply below_drew1) | exact HB.out)) hb); clear HO_0; clear HB; have HO_0 := n0_; have HO157 := n1_; have HB := n2_; clear n0_ n1_ n2_; clear hb ho23) | ((with_reducible refine gate_callee (f := 48) rfl ?_); refine goesL_ (some 42) rfl rfl Try.func48 (by kernel_rfl) rfl #[.slice (some ad140) l0.length c0] rfl (by (try simp only [List.map_toArray, List.map_cons, List.map_nil]); first | done | rfl | (simp only [List.length_drop, List.length_take]; rfl)) ?_; (with_reducible refine (spec_l7Starts.calls kj18 _ _ l0 t158 _ ?side1 ?side2 A21.out).mono ?_); (case side1 => repeat (first | exact (Kd.V_reads' HO_0.out).2.2 | (with_reducible refine Kd.C_alloc ?_ _) | (with_reducible refine Kd.C_drewN ?_ _) | (with_reducible refine Kd.C_drew ?_))); (case side2 => exact (Kd.V_reads' HO_0.out).2.1); rintro e w24 ⟨v159, rfl, ho0, hb⟩; refine ⟨_, rfl, ?_⟩; have n0_ := Aside0.mk (Kd.V_elder' (by (with_reducible repeat (first | apply Kd.V_alloc | apply Kd.V_drewN | apply Kd.V_drew)); exact HO_0.out) (Kd.R_base ho0) hb); have n1_ := Aside0.mk (Kd.R_below (by (with_reducible repeat (first | apply Kd.R_alloc | apply Kd.R_drewN | apply Kd.R_drew)); exact HO157.out) hb); have n2_ := Aside0.mk (Kd.R_lower (Kd.R_newM (M := fun k_ => (w.heap.size ≤ k_)) ho0 (below_size (by repeat (first | (with_reducible first | exact HB.out | apply below_alloc | apply pw_below_drewN | apply below_drew1) | exact HB.out))) (fun k_ h_ => h_)) (below_size (by repeat (first | (with_reducible first | exact HB.out | apply below_alloc | apply pw_below_drewN | apply below_drew1) | exact HB.out)))); have n3_ := Aside0.mk (below_step (by repeat (first | (with_reducible first | exact HB.out | apply below_alloc | apply pw_below_drewN | apply below_drew1) | exact HB.out)) hb); clear HO_0; clear HO157; clear HB; have HO_0 := n0_; have HO157 := n1_; have HO160 := n2_; have HB := n3_; clear n0_ n1_ n2_ n3_; (try clear hb); (try clear hb2); (try clear hk); (try clear hi); (try clear ho0)))
                  go_loopg [6, 8] kj18 (fun kq v6 v8 w' => ∃ (x6_3 : List (S45)) (x8_3 : Int), v8 = .int .i64 x8_3 ∧ Aside0 (spec_l7Plain.l0 kq l0 a1 x5_18 x6_3 t158 x8_3 = some r) ∧ Aside0 (kq ≤ kj18) ∧ Aside0 (Kd.V k45 45 w' w.heap.size (fun k_ => (P0_ k_ ∨ w.heap.size ≤ k_) ∧ some k_ ≠ (v6 : Value).ownBlock ∧ some k_ ≠ (v159 : Value).ownBlock) (.slice (some ad140) l0.length c0) l0) ∧ Aside0 (Kd.R k45 45 w' w.heap.size (fun k_ => (w.heap.size ≤ k_)) v6 x6_3) ∧ Aside0 (Kd.R (Kd.int .i64) 3 w' w.heap.size (fun k_ => (w.heap.size ≤ k_)) v159 t158) ∧ Aside0 (Below w.heap.size w w'))
                  case atStart => exact ⟨(y155), (0), (by first | rfl | (simp; done) | (simp [*]; done)), H', ⟨Nat.le_refl _⟩, ⟨by (with_reducible repeat (first | apply Kd.V_alloc | apply Kd.V_drewN | apply Kd.V_drew)); exact Kd.V_mono HO_0.out (fun _ hk => ⟨hk.1.1, ⟨hk.1.2, hk.2⟩⟩)⟩, ⟨by (with_reducible repeat (first | apply Kd.R_alloc | apply Kd.R_drewN | apply Kd.R_drew)); exact Kd.R_mono HO157.out (fun _ hk => hk.1)⟩, ⟨by (with_reducible repeat (first | apply Kd.R_alloc | apply Kd.R_drewN | apply Kd.R_drew)); exact Kd.R_mono HO160.out (fun _ hk => hk.1)⟩, ⟨by repeat (first | (with_reducible first | exact HB.out | apply below_alloc | apply pw_below_drewN | apply below_drew1) | exact HB.out)⟩⟩
                  case round =>
                    clear H'
                    try clear c1
                    try clear p1
                    try clear q1
                    try clear hx1
                    try clear qi1
                    try clear c2
                    try clear p2
                    try clear c3
                    try clear c3b0
                    try clear c3b1
                    try clear c4
                    try clear c4b0
                    try clear c4b1
                    try clear c5
                    try clear p6
                    try clear c9
                    try clear c9b0
                    try clear c9b1
                    try clear c10
                    try clear c11
                    try clear c14
                    try clear c14b0
                    try clear c14b1
                    try clear p14
                    try clear q14
                    try clear hx14
                    try clear qi14
                    try clear c15
                    try clear c15b0
                    try clear c15b1
                    try clear c17
                    try clear q17
                    try clear c20
                    try clear hx140_0
                    try clear hx140_1
                    try clear hx140_2
                    try clear p1
                    try clear p14
                    try clear p140
                    try clear p2
                    try clear p6
                    try clear q1
                    try clear q14
                    try clear q140
                    try clear q17
                    obtain ⟨x6_3, x8_3, rfl, HA, HK3, HO_0, HO_6, HO_7, HB⟩ := hrel
                    cases gk with
                    | zero => exact absurd HA.out (by simp [spec_l7Plain.l0])
                    | succ k3 =>
                      have H := HA.out
                      clear HA
                      simp only [spec_l7Plain.l0] at H
                      by_cases c25 : x8_3 < (t158.length : Int)
                      · rw [if_pos c25] at H
                        have c25b0 : decide (x8_3 < (t158.length : Int)) = true := decide_eq_true c25
                        clear c25
                        by_cases c26 : 0 ≤ x8_3
                        · rw [if_pos c26] at H
                          have c26b0 : decide (0 ≤ x8_3) = true := decide_eq_true c26
                          clear c26
                          by_cases c27 : 0 ≤ (rd t158 x8_3)
                          · rw [if_pos c27] at H
                            have c27b0 := eq_true c27
                            have c27b1 : decide (0 ≤ (rd t158 x8_3)) = true := decide_eq_true c27
                            clear c27
                            by_cases c28 : (rd t158 x8_3) ≤ (hi44 l0 (rd t158 x8_3))
                            · rw [if_pos c28] at H
                              have c28b0 := eq_true c28
                              have c28b1 : decide ((rd t158 x8_3) ≤ (hi44 l0 (rd t158 x8_3))) = true := decide_eq_true c28
                              clear c28
                              by_cases c29 : (hi44 l0 (rd t158 x8_3)) ≤ (l0.length : Int) ∧ (rd t158 x8_3) < (l0.length : Int)
                              · rw [if_pos c29] at H
                                have HLT_ := Aside0.mk c29.2
                                replace c29 := c29.1
                                have c29b0 := eq_true c29
                                have c29b1 : decide ((hi44 l0 (rd t158 x8_3)) ≤ (l0.length : Int)) = true := decide_eq_true c29
                                clear c29
                                obtain ⟨y162, hy162⟩ : ∃ y_ : List (S45), y_ = ((l0.take ((hi44 l0 (rd t158 x8_3)) : Int).toNat).drop ((rd t158 x8_3) : Int).toNat) := ⟨_, rfl⟩
                                replace H : ((spec_l7Plain.f k3 y162 a1).bind fun t167 => (if 0 < (t167.length : Int) then (if ((rd_T45 t167 0).f0) = x5_18 then (if 1 ≤ (t167.length : Int) then ((some (t167.drop 1 : List (S45))).bind fun y171 => (if x6_3.length + y171.length < 4398046511104 then (spec_l7Plain.l0 k3 l0 a1 x5_18 (x6_3 ++ y171) t158 (wrap64 (x8_3 + 1))) else (none))) else (none)) else (if x6_3.length + t167.length < 4398046511104 then (spec_l7Plain.l0 k3 l0 a1 x5_18 (x6_3 ++ t167) t158 (wrap64 (x8_3 + 1))) else (none))) else (none))) = some r := by first | (rw [hy162]; with_reducible exact H) | (have H2_ := (Option.bind_some _ _).symm.trans H; rw [hy162]; with_reducible exact H2_) | (have H2_ := (Option.bind_some _ _).symm.trans H; with_reducible exact H2_) | with_reducible exact H | (rw [hy162]; exact H) | exact H
                                have Ny162 := Aside0.mk hy162
                                clear hy162
                                replace H := Option.bind_eq_some_iff.mp H
                                obtain ⟨t167, A300, H⟩ := H
                                replace H : (if 0 < (t167.length : Int) then (if ((rd_T45 t167 0).f0) = x5_18 then (if 1 ≤ (t167.length : Int) then ((some (t167.drop 1 : List (S45))).bind fun y171 => (if x6_3.length + y171.length < 4398046511104 then (spec_l7Plain.l0 k3 l0 a1 x5_18 (x6_3 ++ y171) t158 (wrap64 (x8_3 + 1))) else (none))) else (none)) else (if x6_3.length + t167.length < 4398046511104 then (spec_l7Plain.l0 k3 l0 a1 x5_18 (x6_3 ++ t167) t158 (wrap64 (x8_3 + 1))) else (none))) else (none)) = some r := H
                                have A30 := Aside0.mk A300
                                clear A300
                                by_cases c31 : 0 < (t167.length : Int)
                                · rw [if_pos c31] at H
                                  have c31b0 : decide (0 < (t167.length : Int)) = true := decide_eq_true c31
                                  have c31b1 : decide (0 < t167.length) = true := decide_eq_true (by omega)
                                  clear c31
                                  by_cases c32 : ((rd_T45 t167 0).f0) = x5_18
                                  · rw [if_pos c32] at H
                                    have c32b0 : (((rd_T45 t167 0).f0) == x5_18) = true := beq_iff_eq.mpr c32
                                    have c32b1 : (((rd_T45 t167 0).f0) != x5_18) = false := bne_eq_false_iff_eq.mpr c32
                                    clear c32
                                    by_cases c33 : 1 ≤ (t167.length : Int)
                                    · rw [if_pos c33] at H
                                      have c33b0 := eq_true c33
                                      have c33b1 : decide (1 ≤ (t167.length : Int)) = true := decide_eq_true c33
                                      clear c33
                                      obtain ⟨y171, hy171⟩ : ∃ y_ : List (S45), y_ = (t167.drop 1) := ⟨_, rfl⟩
                                      replace H : (if x6_3.length + y171.length < 4398046511104 then (spec_l7Plain.l0 k3 l0 a1 x5_18 (x6_3 ++ y171) t158 (wrap64 (x8_3 + 1))) else (none)) = some r := by first | (rw [hy171]; with_reducible exact H) | (have H2_ := (Option.bind_some _ _).symm.trans H; rw [hy171]; with_reducible exact H2_) | (have H2_ := (Option.bind_some _ _).symm.trans H; with_reducible exact H2_) | with_reducible exact H | (rw [hy171]; exact H) | exact H
                                      have Ny171 := Aside0.mk hy171
                                      clear hy171
                                      by_cases c34 : x6_3.length + y171.length < 4398046511104
                                      · rw [if_pos c34] at H
                                        have LMc34 := Aside0.mk c34
                                        clear c34
                                        obtain ⟨y176, hy176⟩ : ∃ y_ : List (S45), y_ = (x6_3 ++ y171) := ⟨_, rfl⟩
                                        replace H : (spec_l7Plain.l0 k3 l0 a1 x5_18 y176 t158 (wrap64 (x8_3 + 1))) = some r := by first | (rw [hy176]; with_reducible exact H) | (have H2_ := (Option.bind_some _ _).symm.trans H; rw [hy176]; with_reducible exact H2_) | (have H2_ := (Option.bind_some _ _).symm.trans H; with_reducible exact H2_) | with_reducible exact H | (rw [hy176]; exact H) | exact H
                                        have Ny176 := Aside0.mk hy176
                                        clear hy176
                                        have H' := Aside0.mk H
                                        clear H
                                        obtain ⟨Ao35, co35, eo35⟩ := Kd.R_slice HO_7.out
                                        subst eo35
                                        have p161 : 0 ≤ (x8_3 : Int) := of_decide_eq_true (by first | (with_reducible assumption) | assumption)
                                        have q161 : x8_3 < (t158.length : Int) := of_decide_eq_true (by first | (with_reducible assumption) | assumption)
                                        obtain ⟨ad161, e161, hx161_0⟩ := Kd.at_int (Kd.R_reads' HO_7.out).2.2 x8_3 p161 q161
                                        cases e161
                                        replace p161 := eq_true p161
                                        replace q161 := eq_true q161
                                        have q36 : ((hi44 l0 (rd t158 x8_3)) : Int) ≤ ((l0.length : Int) : Int) := of_decide_eq_true (by first | (with_reducible assumption) | assumption)
                                        obtain ⟨i036, hi036, _, hsz36, _⟩ := info_parts info45
                                        have hroom36 : l0.length ≤ c0 := (Kd.V_reads' HO_0.out).2.1
                                        have hC36 : Kd.F k45 _ _ (some ad140) l0.length l0 := (Kd.V_at (base := w.heap.size) HO_0.out).2.2
                                        have ql36 : ((rd t158 x8_3) : Int) ≤ ((hi44 l0 (rd t158 x8_3)) : Int) := of_decide_eq_true (by first | (with_reducible assumption) | assumption)
                                        have q036 : (0 : Int) ≤ ((rd t158 x8_3) : Int) := of_decide_eq_true (by first | (with_reducible assumption) | assumption)
                                        have hr36 := Kd.F_mid (lo := ((rd t158 x8_3) : Int).toNat) (hi := ((hi44 l0 (rd t158 x8_3)) : Int).toNat) (c := c0) hC36 (by omega) (by omega) hroom36
                                        obtain ⟨A36, hA36⟩ : ∃ A1, A1 = (if c0 = ((rd t158 x8_3) : Int).toNat then (some ad140) else ((some ad140) : Option Addr).map (·.add (((rd t158 x8_3) : Int).toNat * 3))) := ⟨_, rfl⟩
                                        obtain ⟨c36, hc36⟩ : ∃ c1, c1 = c0 - ((rd t158 x8_3) : Int).toNat := ⟨_, rfl⟩
                                        have hy36 : y162.length = ((hi44 l0 (rd t158 x8_3)) : Int).toNat - ((rd t158 x8_3) : Int).toNat := (by rw [Ny162.out, List.length_drop, List.length_take] <;> omega)
                                        rw [show ((l0).take ((hi44 l0 (rd t158 x8_3)) : Int).toNat).drop ((rd t158 x8_3) : Int).toNat = y162 from Ny162.out.symm] at hr36
                                        replace hr36 : Kd.F k45 _ _ A36 y162.length y162 := (by rw [hA36]; exact hr36)
                                        have KQ36 := Aside0.mk q36; have KL36 := Aside0.mk ql36; have K036 := Aside0.mk q036; have KC36 := Aside0.mk hc36; clear ql36 q036
                                        have HO166 := Aside0.mk (show Kd.V k45 45 _ w.heap.size _ (.slice A36 y162.length c36) y162 from Kd.V_mk (by rw [hy36, hc36]; exact Nat.sub_le_sub_right (Nat.le_trans (by omega) hroom36) _) hr36)
                                        have HC166 := Aside0.mk (show y162.length ≤ c36 from by rw [hy36, hc36]; exact Nat.sub_le_sub_right (Nat.le_trans (by omega) hroom36) _)
                                        clear hr36 hC36 hroom36 hi036 hsz36 hc36
                                        have KY36 := Aside0.mk hy36
                                        have KA36 := Aside0.mk hA36
                                        clear hy36 hA36
                                        replace q36 := eq_true q36
                                        go_wp2_with (first | ((go_at_call 44); (with_reducible refine (spec_l7Part.calls _ _ l0 (rd t158 x8_3) _ A36 c36 y162 ?zr36 ?zc36 K036.out HLT_.out KL36.out KQ36.out KA36.out KY36.out KC36.out).mono ?_); (case zr36 => repeat (first | exact (Kd.V_reads' (base := w.heap.size) HO_0.out).2.2 | (with_reducible refine Kd.C_alloc ?_ _) | (with_reducible refine Kd.C_drewN ?_ _) | (with_reducible refine Kd.C_drew ?_))); (case zc36 => exact (Kd.V_reads' (base := w.heap.size) HO_0.out).2.1); rintro e w' ⟨rfl, ⟨nd_, rfl⟩⟩) | ((with_reducible refine gate_callee (f := 34) rfl ?_); refine goesL_ (some 56) rfl rfl Try.func34 (by kernel_rfl) rfl #[.slice A36 y162.length c36, .bool a1] rfl (by (try simp only [List.map_toArray, List.map_cons, List.map_nil]); first | done | rfl | (simp only [List.length_drop, List.length_take]; rfl)) ?_; (with_reducible refine (ih k3 (by have := HJ7.out; have := HJ18.out; have := HK3.out; omega) (fun k_ => ((P0_ k_ ∨ w.heap.size ≤ k_) ∧ (some k_ ≠ (u6 : Value).ownBlock ∧ some k_ ≠ (.slice (some ad161) t158.length co35 : Value).ownBlock))) _ _ y162 a1 t167 _ ?side1 A30.out).mono ?_); (case side1 => exact HO166.out); rintro e w37 ⟨v168, rfl, ho0, hb⟩; refine ⟨_, rfl, ?_⟩; have n0_ := Aside0.mk (Kd.V_below (by (with_reducible repeat (first | apply Kd.V_alloc | apply Kd.V_drewN | apply Kd.V_drew)); exact HO_0.out) hb); have n1_ := Aside0.mk (Kd.R_below (by (with_reducible repeat (first | apply Kd.R_alloc | apply Kd.R_drewN | apply Kd.R_drew)); exact HO_6.out) hb); have n2_ := Aside0.mk (Kd.R_below (by (with_reducible repeat (first | apply Kd.R_alloc | apply Kd.R_drewN | apply Kd.R_drew)); exact HO_7.out) hb); have n3_ := Aside0.mk (Kd.V_below (by (with_reducible repeat (first | apply Kd.V_alloc | apply Kd.V_drewN | apply Kd.V_drew)); exact HO166.out) hb); have n4_ := Aside0.mk (Kd.V_lower (Kd.V_mono (ok' := fun k_ => (P0_ k_ ∨ w.heap.size ≤ k_) ∧ some k_ ≠ (u6 : Value).ownBlock ∧ some k_ ≠ (.slice (some ad161) t158.length co35 : Value).ownBlock) ho0 (fun k_ hk_ => ⟨Or.elim hk_ (fun hs_ => hs_.1) (fun hn_ => (.inr (Nat.le_trans (below_size (by repeat (first | (with_reducible first | exact HB.out | apply below_alloc | apply pw_below_drewN | apply below_drew1) | exact HB.out))) hn_))), Or.elim hk_ (fun hs_ => hs_.2.1) (fun hn_ => (Kd.fresh' (Kd.R_lt (by (with_reducible repeat (first | apply Kd.R_alloc | apply Kd.R_drewN | apply Kd.R_drew)); exact HO_6.out)) k_ hn_)), Or.elim hk_ (fun hs_ => hs_.2.2) (fun hn_ => (Kd.fresh' (Kd.R_lt (by (with_reducible repeat (first | apply Kd.R_alloc | apply Kd.R_drewN | apply Kd.R_drew)); exact HO_7.out)) k_ hn_))⟩)) (below_size (by repeat (first | (with_reducible first | exact HB.out | apply below_alloc | apply pw_below_drewN | apply below_drew1) | exact HB.out)))); have n5_ := Aside0.mk (below_step (by repeat (first | (with_reducible first | exact HB.out | apply below_alloc | apply pw_below_drewN | apply below_drew1) | exact HB.out)) hb); clear HO_0; clear HO_6; clear HO_7; clear HO166; clear HB; have HO_0 := n0_; have HO_6 := n1_; have HO_7 := n2_; have HO166 := n3_; have HO169 := n4_; have HB := n5_; clear n0_ n1_ n2_ n3_ n4_ n5_; (try clear hb); (try clear hb2); (try clear hk); (try clear hi); (try clear ho0); obtain ⟨Ao38, co38, eo38⟩ := Kd.V_slice HO169.out; subst eo38; have p170 : 0 ≤ (0 : Int) := (by omega); have q170 : 0 < (t167.length : Int) := of_decide_eq_true (by first | (with_reducible assumption) | assumption); obtain ⟨ad170, e170, hx170_0, hx170_1, hx170_2⟩ := at_T45 (Kd.V_reads' HO169.out).2.2 0 p170 q170; cases e170; have qi170 : (0 < t167.length) = True := eq_true (by omega); (try rw [show ((0 : Int)).toNat = 0 from rfl] at hx170_0); (try rw [show 0 * 3 = 0 from rfl] at hx170_0); (try rw [Addr.add_zero'] at hx170_0); (try rw [show ((0 : Int)).toNat = 0 from rfl] at hx170_1); (try rw [show 0 * 3 = 0 from rfl] at hx170_1); (try rw [Addr.add_zero'] at hx170_1); (try rw [show ((0 : Int)).toNat = 0 from rfl] at hx170_2); (try rw [show 0 * 3 = 0 from rfl] at hx170_2); (try rw [Addr.add_zero'] at hx170_2); replace p170 := eq_true p170; replace q170 := eq_true q170; have q39 : (1 : Int) ≤ ((t167.length : Int) : Int) := of_decide_eq_true (by first | (with_reducible assumption) | assumption); obtain ⟨i039, hi039, _, hsz39, _⟩ := info_parts info45; have hroom39 : t167.length ≤ co38 := (Kd.V_reads' HO169.out).2.1; have hC39 : Kd.F k45 _ _ (some ad170) t167.length t167 := (Kd.V_at (base := w.heap.size) HO169.out).2.2; have hcut39 := cut_from (P := Try.prog) 25 45 .i64 Try.underlying25 hi039 3 hsz39 (some ad170) t167.length co38 1 (by omega) q39; have hr39 := Kd.F_cut (m := (1 : Int).toNat) (c := co38) hC39 (by omega) hroom39; obtain ⟨A39, hA39⟩ : ∃ A1, A1 = (if co38 = (1 : Int).toNat then (some ad170) else ((some ad170) : Option Addr).map (·.add ((1 : Int).toNat * 3))) := ⟨_, rfl⟩; obtain ⟨c39, hc39⟩ : ∃ c1, c1 = co38 - (1 : Int).toNat := ⟨_, rfl⟩; have hy39 : y171.length = t167.length - (1 : Int).toNat := (by rw [Ny171.out, List.length_drop] <;> omega); rw [show (t167).drop (1 : Int).toNat = y171 from Ny171.out.symm] at hr39; replace hr39 : Kd.F k45 _ _ A39 y171.length y171 := (by rw [hA39]; exact hr39); rw [← hy39, ← hA39, ← hc39] at hcut39; have HO175 := Aside0.mk (show Kd.V k45 45 _ w.heap.size _ (.slice A39 y171.length c39) y171 from Kd.V_mk (by rw [hy39, hc39]; exact Nat.sub_le_sub_right hroom39 _) hr39); have HC175 := Aside0.mk (show y171.length ≤ c39 from by rw [hy39, hc39]; exact Nat.sub_le_sub_right hroom39 _); clear hr39 hC39 hroom39 hi039 hsz39 hc39; have KY39 := Aside0.mk hy39; have KA39 := Aside0.mk hA39; clear hy39 hA39; replace q39 := eq_true q39) | ((with_reducible refine gate_builtin (b := .append) (xs := #[.tmp 65, .tmp 66]) rfl ?_); at_builtin; refine Kd.R_append_rows k45 (w0 := w) w.heap.size rfl (.tmp 65) (.tmp 66) 25 45 (.agg #[(.int .i64 0), (.string ⟨#[]⟩), (.int .i64 0)]) 32 rfl Try.underlying25 info45 rfl (by decide) (by omega) u6 x6_3 y171 _ _ _ (fun k_ => (w.heap.size ≤ k_)) (fun _ => False) rfl rfl ?aO ?aR (fun _ _ h => h) (fun _ h => h.elim) ?aF ?aB ?aS ?aL ?_; (case aR => repeat (first | exact (Kd.V_reads' HO175.out).2.2 | (with_reducible refine Kd.C_alloc ?_ _) | (with_reducible refine Kd.C_drewN ?_ _) | (with_reducible refine Kd.C_drew ?_))); (case aB => exact (by repeat (first | (with_reducible first | exact HB.out | apply below_alloc | apply pw_below_drewN | apply below_drew1) | exact HB.out))); (case aF => exact (fun k_ hk => (Nat.le_trans (below_size (by repeat (first | (with_reducible first | exact HB.out | apply below_alloc | apply pw_below_drewN | apply below_drew1) | exact HB.out))) hk))); (case aO => exact (by (with_reducible repeat (first | apply Kd.R_alloc | apply Kd.R_drewN | apply Kd.R_drew)); exact HO_6.out)); (case aS => exact (below_size (by repeat (first | (with_reducible first | exact HB.out | apply below_alloc | apply pw_below_drewN | apply below_drew1) | exact HB.out)))); (case aL => have := LMc34.out; omega); intro v177 w40 ho hb hg hat; rw [← Ny176.out] at ho; have n0_ := Aside0.mk (Kd.V_afterv (ok := (fun k_ => (P0_ k_ ∨ w.heap.size ≤ k_) ∧ some k_ ≠ (.slice (some ad161) t158.length co35 : Value).ownBlock)) (by (with_reducible repeat (first | apply Kd.V_alloc | apply Kd.V_drewN | apply Kd.V_drew)); exact Kd.V_mono HO_0.out (fun _ hk => ⟨⟨hk.1, hk.2.2⟩, hk.2.1⟩)) hg hat); have n1_ := Aside0.mk (Kd.R_over' (by (with_reducible repeat (first | apply Kd.R_alloc | apply Kd.R_drewN | apply Kd.R_drew)); exact HO_7.out) (Kd.R_typed (by (with_reducible repeat (first | apply Kd.R_alloc | apply Kd.R_drewN | apply Kd.R_drew)); exact HO_6.out)) (by decide) hg); have n2_ := Aside0.mk (Kd.V_afterv (ok := (fun k_ => (P0_ k_ ∨ w.heap.size ≤ k_) ∧ some k_ ≠ (.slice (some ad161) t158.length co35 : Value).ownBlock)) (by (with_reducible repeat (first | apply Kd.V_alloc | apply Kd.V_drewN | apply Kd.V_drew)); exact Kd.V_mono HO166.out (fun _ hk => ⟨⟨hk.1, hk.2.2⟩, hk.2.1⟩)) hg hat); have n3_ := Aside0.mk (Kd.V_afterv (ok := (fun k_ => (P0_ k_ ∨ w.heap.size ≤ k_) ∧ some k_ ≠ (.slice (some ad161) t158.length co35 : Value).ownBlock)) (by (with_reducible repeat (first | apply Kd.V_alloc | apply Kd.V_drewN | apply Kd.V_drew)); exact Kd.V_mono HO169.out (fun _ hk => ⟨⟨hk.1, hk.2.2⟩, hk.2.1⟩)) hg hat); have n4_ := Aside0.mk (Kd.V_afterv (ok := (fun k_ => (P0_ k_ ∨ w.heap.size ≤ k_) ∧ some k_ ≠ (.slice (some ad161) t158.length co35 : Value).ownBlock)) (by (with_reducible repeat (first | apply Kd.V_alloc | apply Kd.V_drewN | apply Kd.V_drew)); exact Kd.V_mono HO175.out (fun _ hk => ⟨⟨hk.1, hk.2.2⟩, hk.2.1⟩)) hg hat); have n5_ := Aside0.mk (hb); have n6_ := Aside0.mk (ho); clear HO_0; clear HO_7; clear HO166; clear HO169; clear HO175; clear HB; clear HO_6; have HO_0 := n0_; have HO_7 := n1_; have HO166 := n2_; have HO169 := n3_; have HO175 := n4_; have HB := n5_; have HO178 := n6_; clear n0_ n1_ n2_ n3_ n4_ n5_ n6_; clear ho hb hg hat))
                                        go_roundg k3
                                        case measure => have := HJ7.out; have := HJ18.out; have := HK3.out; omega
                                        case rel => exact ⟨(y176), (wrap64 (x8_3 + 1)), (by first | rfl | (simp; done) | (simp [*]; done)), H', ⟨by have := HJ7.out; have := HJ18.out; have := HK3.out; omega⟩, ⟨by (with_reducible repeat (first | apply Kd.V_alloc | apply Kd.V_drewN | apply Kd.V_drew)); exact Kd.V_mono HO_0.out (fun _ hk => ⟨hk.1.1, ⟨hk.2, hk.1.2⟩⟩)⟩, ⟨by (with_reducible repeat (first | apply Kd.R_alloc | apply Kd.R_drewN | apply Kd.R_drew)); exact HO178.out⟩, ⟨by (with_reducible repeat (first | apply Kd.R_alloc | apply Kd.R_drewN | apply Kd.R_drew)); exact HO_7.out⟩, ⟨by repeat (first | (with_reducible first | exact HB.out | apply below_alloc | apply pw_below_drewN | apply below_drew1) | exact HB.out)⟩⟩
                                      · rw [if_neg c34] at H
                                        exact absurd H (by simp)
                                    · rw [if_neg c33] at H
                                      exact absurd H (by simp)
                                  · rw [if_neg c32] at H
                                    have c32b0 : (((rd_T45 t167 0).f0) == x5_18) = false := beq_eq_false_iff_ne.mpr c32
                                    have c32b1 : (((rd_T45 t167 0).f0) != x5_18) = true := bne_iff_ne.mpr c32
                                    by_cases c41 : x6_3.length + t167.length < 4398046511104
                                    · rw [if_pos c41] at H
                                      have LMc41 := Aside0.mk c41
                                      clear c41
                                      obtain ⟨y179, hy179⟩ : ∃ y_ : List (S45), y_ = (x6_3 ++ t167) := ⟨_, rfl⟩
                                      replace H : (spec_l7Plain.l0 k3 l0 a1 x5_18 y179 t158 (wrap64 (x8_3 + 1))) = some r := by first | (rw [hy179]; with_reducible exact H) | (have H2_ := (Option.bind_some _ _).symm.trans H; rw [hy179]; with_reducible exact H2_) | (have H2_ := (Option.bind_some _ _).symm.trans H; with_reducible exact H2_) | with_reducible exact H | (rw [hy179]; exact H) | exact H
                                      have Ny179 := Aside0.mk hy179
                                      clear hy179
                                      have H' := Aside0.mk H
                                      clear H
                                      obtain ⟨Ao42, co42, eo42⟩ := Kd.R_slice HO_7.out
                                      subst eo42
                                      have p161 : 0 ≤ (x8_3 : Int) := of_decide_eq_true (by first | (with_reducible assumption) | assumption)
                                      have q161 : x8_3 < (t158.length : Int) := of_decide_eq_true (by first | (with_reducible assumption) | assumption)
                                      obtain ⟨ad161, e161, hx161_0⟩ := Kd.at_int (Kd.R_reads' HO_7.out).2.2 x8_3 p161 q161
                                      cases e161
                                      replace p161 := eq_true p161
                                      replace q161 := eq_true q161
                                      have q43 : ((hi44 l0 (rd t158 x8_3)) : Int) ≤ ((l0.length : Int) : Int) := of_decide_eq_true (by first | (with_reducible assumption) | assumption)
                                      obtain ⟨i043, hi043, _, hsz43, _⟩ := info_parts info45
                                      have hroom43 : l0.length ≤ c0 := (Kd.V_reads' HO_0.out).2.1
                                      have hC43 : Kd.F k45 _ _ (some ad140) l0.length l0 := (Kd.V_at (base := w.heap.size) HO_0.out).2.2
                                      have ql43 : ((rd t158 x8_3) : Int) ≤ ((hi44 l0 (rd t158 x8_3)) : Int) := of_decide_eq_true (by first | (with_reducible assumption) | assumption)
                                      have q043 : (0 : Int) ≤ ((rd t158 x8_3) : Int) := of_decide_eq_true (by first | (with_reducible assumption) | assumption)
                                      have hr43 := Kd.F_mid (lo := ((rd t158 x8_3) : Int).toNat) (hi := ((hi44 l0 (rd t158 x8_3)) : Int).toNat) (c := c0) hC43 (by omega) (by omega) hroom43
                                      obtain ⟨A43, hA43⟩ : ∃ A1, A1 = (if c0 = ((rd t158 x8_3) : Int).toNat then (some ad140) else ((some ad140) : Option Addr).map (·.add (((rd t158 x8_3) : Int).toNat * 3))) := ⟨_, rfl⟩
                                      obtain ⟨c43, hc43⟩ : ∃ c1, c1 = c0 - ((rd t158 x8_3) : Int).toNat := ⟨_, rfl⟩
                                      have hy43 : y162.length = ((hi44 l0 (rd t158 x8_3)) : Int).toNat - ((rd t158 x8_3) : Int).toNat := (by rw [Ny162.out, List.length_drop, List.length_take] <;> omega)
                                      rw [show ((l0).take ((hi44 l0 (rd t158 x8_3)) : Int).toNat).drop ((rd t158 x8_3) : Int).toNat = y162 from Ny162.out.symm] at hr43
                                      replace hr43 : Kd.F k45 _ _ A43 y162.length y162 := (by rw [hA43]; exact hr43)
                                      have KQ43 := Aside0.mk q43; have KL43 := Aside0.mk ql43; have K043 := Aside0.mk q043; have KC43 := Aside0.mk hc43; clear ql43 q043
                                      have HO166 := Aside0.mk (show Kd.V k45 45 _ w.heap.size _ (.slice A43 y162.length c43) y162 from Kd.V_mk (by rw [hy43, hc43]; exact Nat.sub_le_sub_right (Nat.le_trans (by omega) hroom43) _) hr43)
                                      have HC166 := Aside0.mk (show y162.length ≤ c43 from by rw [hy43, hc43]; exact Nat.sub_le_sub_right (Nat.le_trans (by omega) hroom43) _)
                                      clear hr43 hC43 hroom43 hi043 hsz43 hc43
                                      have KY43 := Aside0.mk hy43
                                      have KA43 := Aside0.mk hA43
                                      clear hy43 hA43
                                      replace q43 := eq_true q43
                                      go_wp2_with (first | ((go_at_call 44); (with_reducible refine (spec_l7Part.calls _ _ l0 (rd t158 x8_3) _ A43 c43 y162 ?zr43 ?zc43 K043.out HLT_.out KL43.out KQ43.out KA43.out KY43.out KC43.out).mono ?_); (case zr43 => repeat (first | exact (Kd.V_reads' (base := w.heap.size) HO_0.out).2.2 | (with_reducible refine Kd.C_alloc ?_ _) | (with_reducible refine Kd.C_drewN ?_ _) | (with_reducible refine Kd.C_drew ?_))); (case zc43 => exact (Kd.V_reads' (base := w.heap.size) HO_0.out).2.1); rintro e w' ⟨rfl, ⟨nd_, rfl⟩⟩) | ((with_reducible refine gate_callee (f := 34) rfl ?_); refine goesL_ (some 56) rfl rfl Try.func34 (by kernel_rfl) rfl #[.slice A43 y162.length c43, .bool a1] rfl (by (try simp only [List.map_toArray, List.map_cons, List.map_nil]); first | done | rfl | (simp only [List.length_drop, List.length_take]; rfl)) ?_; (with_reducible refine (ih k3 (by have := HJ7.out; have := HJ18.out; have := HK3.out; omega) (fun k_ => ((P0_ k_ ∨ w.heap.size ≤ k_) ∧ (some k_ ≠ (u6 : Value).ownBlock ∧ some k_ ≠ (.slice (some ad161) t158.length co42 : Value).ownBlock))) _ _ y162 a1 t167 _ ?side1 A30.out).mono ?_); (case side1 => exact HO166.out); rintro e w44 ⟨v168, rfl, ho0, hb⟩; refine ⟨_, rfl, ?_⟩; have n0_ := Aside0.mk (Kd.V_below (by (with_reducible repeat (first | apply Kd.V_alloc | apply Kd.V_drewN | apply Kd.V_drew)); exact HO_0.out) hb); have n1_ := Aside0.mk (Kd.R_below (by (with_reducible repeat (first | apply Kd.R_alloc | apply Kd.R_drewN | apply Kd.R_drew)); exact HO_6.out) hb); have n2_ := Aside0.mk (Kd.R_below (by (with_reducible repeat (first | apply Kd.R_alloc | apply Kd.R_drewN | apply Kd.R_drew)); exact HO_7.out) hb); have n3_ := Aside0.mk (Kd.V_below (by (with_reducible repeat (first | apply Kd.V_alloc | apply Kd.V_drewN | apply Kd.V_drew)); exact HO166.out) hb); have n4_ := Aside0.mk (Kd.V_lower (Kd.V_mono (ok' := fun k_ => (P0_ k_ ∨ w.heap.size ≤ k_) ∧ some k_ ≠ (u6 : Value).ownBlock ∧ some k_ ≠ (.slice (some ad161) t158.length co42 : Value).ownBlock) ho0 (fun k_ hk_ => ⟨Or.elim hk_ (fun hs_ => hs_.1) (fun hn_ => (.inr (Nat.le_trans (below_size (by repeat (first | (with_reducible first | exact HB.out | apply below_alloc | apply pw_below_drewN | apply below_drew1) | exact HB.out))) hn_))), Or.elim hk_ (fun hs_ => hs_.2.1) (fun hn_ => (Kd.fresh' (Kd.R_lt (by (with_reducible repeat (first | apply Kd.R_alloc | apply Kd.R_drewN | apply Kd.R_drew)); exact HO_6.out)) k_ hn_)), Or.elim hk_ (fun hs_ => hs_.2.2) (fun hn_ => (Kd.fresh' (Kd.R_lt (by (with_reducible repeat (first | apply Kd.R_alloc | apply Kd.R_drewN | apply Kd.R_drew)); exact HO_7.out)) k_ hn_))⟩)) (below_size (by repeat (first | (with_reducible first | exact HB.out | apply below_alloc | apply pw_below_drewN | apply below_drew1) | exact HB.out)))); have n5_ := Aside0.mk (below_step (by repeat (first | (with_reducible first | exact HB.out | apply below_alloc | apply pw_below_drewN | apply below_drew1) | exact HB.out)) hb); clear HO_0; clear HO_6; clear HO_7; clear HO166; clear HB; have HO_0 := n0_; have HO_6 := n1_; have HO_7 := n2_; have HO166 := n3_; have HO169 := n4_; have HB := n5_; clear n0_ n1_ n2_ n3_ n4_ n5_; (try clear hb); (try clear hb2); (try clear hk); (try clear hi); (try clear ho0); obtain ⟨Ao45, co45, eo45⟩ := Kd.V_slice HO169.out; subst eo45; have p170 : 0 ≤ (0 : Int) := (by omega); have q170 : 0 < (t167.length : Int) := of_decide_eq_true (by first | (with_reducible assumption) | assumption); obtain ⟨ad170, e170, hx170_0, hx170_1, hx170_2⟩ := at_T45 (Kd.V_reads' HO169.out).2.2 0 p170 q170; cases e170; have qi170 : (0 < t167.length) = True := eq_true (by omega); (try rw [show ((0 : Int)).toNat = 0 from rfl] at hx170_0); (try rw [show 0 * 3 = 0 from rfl] at hx170_0); (try rw [Addr.add_zero'] at hx170_0); (try rw [show ((0 : Int)).toNat = 0 from rfl] at hx170_1); (try rw [show 0 * 3 = 0 from rfl] at hx170_1); (try rw [Addr.add_zero'] at hx170_1); (try rw [show ((0 : Int)).toNat = 0 from rfl] at hx170_2); (try rw [show 0 * 3 = 0 from rfl] at hx170_2); (try rw [Addr.add_zero'] at hx170_2); replace p170 := eq_true p170; replace q170 := eq_true q170) | ((with_reducible refine gate_builtin (b := .append) (xs := #[.tmp 65, .tmp 66]) rfl ?_); at_builtin; refine Kd.R_append_rows k45 (w0 := w) w.heap.size rfl (.tmp 65) (.tmp 66) 25 45 (.agg #[(.int .i64 0), (.string ⟨#[]⟩), (.int .i64 0)]) 32 rfl Try.underlying25 info45 rfl (by decide) (by omega) u6 x6_3 t167 _ _ _ (fun k_ => (w.heap.size ≤ k_)) (fun _ => False) rfl rfl ?aO ?aR (fun _ _ h => h) (fun _ h => h.elim) ?aF ?aB ?aS ?aL ?_; (case aR => repeat (first | exact (Kd.V_reads' HO169.out).2.2 | (with_reducible refine Kd.C_alloc ?_ _) | (with_reducible refine Kd.C_drewN ?_ _) | (with_reducible refine Kd.C_drew ?_))); (case aB => exact (by repeat (first | (with_reducible first | exact HB.out | apply below_alloc | apply pw_below_drewN | apply below_drew1) | exact HB.out))); (case aF => exact (fun k_ hk => (Nat.le_trans (below_size (by repeat (first | (with_reducible first | exact HB.out | apply below_alloc | apply pw_below_drewN | apply below_drew1) | exact HB.out))) hk))); (case aO => exact (by (with_reducible repeat (first | apply Kd.R_alloc | apply Kd.R_drewN | apply Kd.R_drew)); exact HO_6.out)); (case aS => exact (below_size (by repeat (first | (with_reducible first | exact HB.out | apply below_alloc | apply pw_below_drewN | apply below_drew1) | exact HB.out)))); (case aL => have := LMc41.out; omega); intro v180 w46 ho hb hg hat; rw [← Ny179.out] at ho; have n0_ := Aside0.mk (Kd.V_afterv (ok := (fun k_ => (P0_ k_ ∨ w.heap.size ≤ k_) ∧ some k_ ≠ (.slice (some ad161) t158.length co42 : Value).ownBlock)) (by (with_reducible repeat (first | apply Kd.V_alloc | apply Kd.V_drewN | apply Kd.V_drew)); exact Kd.V_mono HO_0.out (fun _ hk => ⟨⟨hk.1, hk.2.2⟩, hk.2.1⟩)) hg hat); have n1_ := Aside0.mk (Kd.R_over' (by (with_reducible repeat (first | apply Kd.R_alloc | apply Kd.R_drewN | apply Kd.R_drew)); exact HO_7.out) (Kd.R_typed (by (with_reducible repeat (first | apply Kd.R_alloc | apply Kd.R_drewN | apply Kd.R_drew)); exact HO_6.out)) (by decide) hg); have n2_ := Aside0.mk (Kd.V_afterv (ok := (fun k_ => (P0_ k_ ∨ w.heap.size ≤ k_) ∧ some k_ ≠ (.slice (some ad161) t158.length co42 : Value).ownBlock)) (by (with_reducible repeat (first | apply Kd.V_alloc | apply Kd.V_drewN | apply Kd.V_drew)); exact Kd.V_mono HO166.out (fun _ hk => ⟨⟨hk.1, hk.2.2⟩, hk.2.1⟩)) hg hat); have n3_ := Aside0.mk (Kd.V_afterv (ok := (fun k_ => (P0_ k_ ∨ w.heap.size ≤ k_) ∧ some k_ ≠ (.slice (some ad161) t158.length co42 : Value).ownBlock)) (by (with_reducible repeat (first | apply Kd.V_alloc | apply Kd.V_drewN | apply Kd.V_drew)); exact Kd.V_mono HO169.out (fun _ hk => ⟨⟨hk.1, hk.2.2⟩, hk.2.1⟩)) hg hat); have n4_ := Aside0.mk (hb); have n5_ := Aside0.mk (ho); clear HO_0; clear HO_7; clear HO166; clear HO169; clear HB; clear HO_6; have HO_0 := n0_; have HO_7 := n1_; have HO166 := n2_; have HO169 := n3_; have HB := n4_; have HO181 := n5_; clear n0_ n1_ n2_ n3_ n4_ n5_; clear ho hb hg hat))
                                      go_roundg k3
                                      case measure => have := HJ7.out; have := HJ18.out; have := HK3.out; omega
                                      case rel => exact ⟨(y179), (wrap64 (x8_3 + 1)), (by first | rfl | (simp; done) | (simp [*]; done)), H', ⟨by have := HJ7.out; have := HJ18.out; have := HK3.out; omega⟩, ⟨by (with_reducible repeat (first | apply Kd.V_alloc | apply Kd.V_drewN | apply Kd.V_drew)); exact Kd.V_mono HO_0.out (fun _ hk => ⟨hk.1.1, ⟨hk.2, hk.1.2⟩⟩)⟩, ⟨by (with_reducible repeat (first | apply Kd.R_alloc | apply Kd.R_drewN | apply Kd.R_drew)); exact HO181.out⟩, ⟨by (with_reducible repeat (first | apply Kd.R_alloc | apply Kd.R_drewN | apply Kd.R_drew)); exact HO_7.out⟩, ⟨by repeat (first | (with_reducible first | exact HB.out | apply below_alloc | apply pw_below_drewN | apply below_drew1) | exact HB.out)⟩⟩
                                    · rw [if_neg c41] at H
                                      exact absurd H (by simp)
                                · rw [if_neg c31] at H
                                  exact absurd H (by simp)
                              · rw [if_neg c29] at H
                                exact absurd H (by simp)
                            · rw [if_neg c28] at H
                              exact absurd H (by simp)
                          · rw [if_neg c27] at H
                            exact absurd H (by simp)
                        · rw [if_neg c26] at H
                          exact absurd H (by simp)
                      · rw [if_neg c25] at H
                        have c25b0 : decide (x8_3 < (t158.length : Int)) = false := decide_eq_false c25
                        clear c25
                        obtain ⟨y182, hy182⟩ : ∃ y_ : List (S45), y_ = (([(⟨x5_18, (⟨#[]⟩ : ByteArray), (x6_3.length : Int)⟩ : S45)] : List (S45))) := ⟨_, rfl⟩
                        replace H : (if y182.length + x6_3.length < 4398046511104 then (some (y182 ++ x6_3)) else (none)) = some r := by first | (rw [hy182]; with_reducible exact H) | (have H2_ := (Option.bind_some _ _).symm.trans H; rw [hy182]; with_reducible exact H2_) | (have H2_ := (Option.bind_some _ _).symm.trans H; with_reducible exact H2_) | with_reducible exact H | (rw [hy182]; exact H) | exact H
                        have Ny182 := Aside0.mk hy182
                        clear hy182
                        by_cases c47 : y182.length + x6_3.length < 4398046511104
                        · rw [if_pos c47] at H
                          have LMc47 := Aside0.mk c47
                          clear c47
                          obtain ⟨y185, hy185⟩ : ∃ y_ : List (S45), y_ = (y182 ++ x6_3) := ⟨_, rfl⟩
                          replace H : (some y185) = some r := by first | (rw [hy185]; with_reducible exact H) | (have H2_ := (Option.bind_some _ _).symm.trans H; rw [hy185]; with_reducible exact H2_) | (have H2_ := (Option.bind_some _ _).symm.trans H; with_reducible exact H2_) | with_reducible exact H | (rw [hy185]; exact H) | exact H
                          have Ny185 := Aside0.mk hy185
                          clear hy185
                          obtain rfl := Option.some.inj H
                          obtain ⟨Ao48, co48, eo48⟩ := Kd.R_slice HO_7.out
                          subst eo48
                          obtain ⟨Ao49, co49, eo49⟩ := Kd.R_slice HO_6.out
                          subst eo49
                          go_wp2_with (first | ((with_reducible refine gate_dst (N := 72) rfl ?_); refine Kd.R_lit k45 _ 45 ?hg (N := 72) ?hd (xs := ([(⟨x5_18, (⟨#[]⟩ : ByteArray), (x6_3.length : Int)⟩ : S45)] : List (S45))) (inner := [.int .i64 x5_18, .string (⟨#[]⟩ : ByteArray), .int .i64 (x6_3.length : Int)]) (ok := fun _ => True) (okp := fun _ => True) ?hr ?hp (fun _ hk => hk) trivial (Below.refl _ _) (Nat.le_refl _) (by simp) ?_; (case hd => rfl); (case hg => rfl); (case hr => first | (go_simp; done) | (go_simp; rfl)); (case hp => exact (Reps.c3 (show Kd.M k45 _ _ _ (⟨x5_18, (⟨#[]⟩ : ByteArray), (x6_3.length : Int)⟩ : S45) [.int .i64 x5_18, .string (⟨#[]⟩ : ByteArray), .int .i64 (x6_3.length : Int)] from (k45_mkM _ _ _ (⟨x5_18, (⟨#[]⟩ : ByteArray), (x6_3.length : Int)⟩ : S45) )) (Reps.none _ _))); intro v183 w50 ho51 hb hg_ hnew_; clear hg_ hnew_; (first | rw [← Ny182.out] at ho51 | (simp only [Int.reduceToNat] at ho51; rw [← Ny182.out] at ho51)); have n0_ := Aside0.mk (Kd.V_elder' (by (with_reducible repeat (first | apply Kd.V_alloc | apply Kd.V_drewN | apply Kd.V_drew)); exact HO_0.out) (Kd.R_base ho51) hb); have n1_ := Aside0.mk (Kd.R_elder' (by (with_reducible repeat (first | apply Kd.R_alloc | apply Kd.R_drewN | apply Kd.R_drew)); exact HO_6.out) (Kd.R_base ho51) hb); have n2_ := Aside0.mk (Kd.R_below (by (with_reducible repeat (first | apply Kd.R_alloc | apply Kd.R_drewN | apply Kd.R_drew)); exact HO_7.out) hb); have n3_ := Aside0.mk (Kd.R_lower (Kd.R_new' (Kd.R_newM (M := fun k_ => (w.heap.size ≤ k_)) ho51 (below_size (by repeat (first | (with_reducible first | exact HB.out | apply below_alloc | apply pw_below_drewN | apply below_drew1) | exact HB.out))) (fun k_ h_ => h_)) (Kd.R_lt (by (with_reducible repeat (first | apply Kd.R_alloc | apply Kd.R_drewN | apply Kd.R_drew)); exact HO_6.out))) (below_size (by repeat (first | (with_reducible first | exact HB.out | apply below_alloc | apply pw_below_drewN | apply below_drew1) | exact HB.out)))); have n4_ := Aside0.mk (below_step (by repeat (first | (with_reducible first | exact HB.out | apply below_alloc | apply pw_below_drewN | apply below_drew1) | exact HB.out)) hb); clear HO_0; clear HO_6; clear HO_7; clear HB; have HO_0 := n0_; have HO_6 := n1_; have HO_7 := n2_; have HO184 := n3_; have HB := n4_; clear n0_ n1_ n2_ n3_ n4_; clear hb ho51) | ((with_reducible refine gate_builtin (b := .append) (xs := #[.tmp 72, .tmp 73]) rfl ?_); at_builtin; refine Kd.R_append_rows k45 (w0 := w) w.heap.size rfl (.tmp 72) (.tmp 73) 25 45 (.agg #[(.int .i64 0), (.string ⟨#[]⟩), (.int .i64 0)]) 32 rfl Try.underlying25 info45 rfl (by decide) (by omega) v183 y182 x6_3 _ _ _ (fun k_ => (w.heap.size ≤ k_) ∧ some k_ ≠ (.slice Ao49 x6_3.length co49 : Value).ownBlock) (fun _ => False) rfl rfl ?aO ?aR (fun _ _ h => h) (fun _ h => h.elim) ?aF ?aB ?aS ?aL ?_; (case aR => repeat (first | exact (Kd.R_reads' HO_6.out).2.2 | (with_reducible refine Kd.C_alloc ?_ _) | (with_reducible refine Kd.C_drewN ?_ _) | (with_reducible refine Kd.C_drew ?_))); (case aB => exact (by repeat (first | (with_reducible first | exact HB.out | apply below_alloc | apply pw_below_drewN | apply below_drew1) | exact HB.out))); (case aF => exact (fun k_ hk => ⟨(Nat.le_trans (below_size (by repeat (first | (with_reducible first | exact HB.out | apply below_alloc | apply pw_below_drewN | apply below_drew1) | exact HB.out))) hk), Kd.fresh' (Kd.R_lt (by (with_reducible repeat (first | apply Kd.R_alloc | apply Kd.R_drewN | apply Kd.R_drew)); exact HO_6.out)) k_ hk⟩)); (case aO => exact (by (with_reducible repeat (first | apply Kd.R_alloc | apply Kd.R_drewN | apply Kd.R_drew)); exact Kd.R_mono HO184.out (fun _ hk => ⟨hk.1.1, hk.2⟩))); (case aS => exact (below_size (by repeat (first | (with_reducible first | exact HB.out | apply below_alloc | apply pw_below_drewN | apply below_drew1) | exact HB.out)))); (case aL => have := LMc47.out; omega); intro v186 w52 ho hb hg hat; rw [← Ny185.out] at ho; have n0_ := Aside0.mk (Kd.V_afterv (ok := (fun k_ => (P0_ k_ ∨ w.heap.size ≤ k_) ∧ some k_ ≠ (.slice Ao49 x6_3.length co49 : Value).ownBlock ∧ some k_ ≠ (.slice Ao48 t158.length co48 : Value).ownBlock)) (by (with_reducible repeat (first | apply Kd.V_alloc | apply Kd.V_drewN | apply Kd.V_drew)); exact HO_0.out) hg hat); have n1_ := Aside0.mk (Kd.R_after (ok := (fun k_ => (w.heap.size ≤ k_))) (by (with_reducible repeat (first | apply Kd.R_alloc | apply Kd.R_drewN | apply Kd.R_drew)); exact HO_6.out) hg hat); have n2_ := Aside0.mk (Kd.R_over' (by (with_reducible repeat (first | apply Kd.R_alloc | apply Kd.R_drewN | apply Kd.R_drew)); exact HO_7.out) (Kd.R_typed (by (with_reducible repeat (first | apply Kd.R_alloc | apply Kd.R_drewN | apply Kd.R_drew)); exact HO184.out)) (by decide) hg); have n3_ := Aside0.mk (hb); have n4_ := Aside0.mk (ho); clear HO_0; clear HO_6; clear HO_7; clear HB; clear HO184; have HO_0 := n0_; have HO_6 := n1_; have HO_7 := n2_; have HB := n3_; have HO187 := n4_; clear n0_ n1_ n2_ n3_ n4_; clear ho hb hg hat))
                          go_ret
                          exact ⟨_, by first | rfl | (simp [errW_none, errW_some] <;> rfl) | (simp [*, errW_none, errW_some] <;> rfl), Kd.V_mono (Kd.R_V (by (with_reducible repeat (first | apply Kd.R_alloc | apply Kd.R_drewN | apply Kd.R_drew)); exact Kd.R_mono HO187.out (fun _ hk => hk.1))) (fun k_ hk => by first | exact ⟨(.inr (hk.1)), hk.2⟩ | exact (.inr (hk))), by repeat (first | (with_reducible first | exact HB.out | apply below_alloc | apply pw_below_drewN | apply below_drew1) | exact HB.out)⟩
                        · rw [if_neg c47] at H
                          exact absurd H (by simp)
  · rw [if_neg c3] at H
    exact absurd H (by simp)
def spec_Plain.f (k : Nat) (l0 : List (S45)) : Option ((List (S45))) := (spec_CondOk.f k l0).bind fun t188 => (if t188 = true then ((some (([] : List (S45)) : List (S45))).bind fun y189 => ((spec_l7Plain.f k l0 false).bind fun t192 => (if y189.length + t192.length < 4398046511104 then (some (y189 ++ t192)) else (none)))) else (some (([] : List (S45)))))
theorem spec_Plain.mono : ∀ a0 k, LeO (spec_Plain.f k a0) (spec_Plain.f (k + 1) a0) := by
  intro a0 k
  unfold spec_Plain.f
  repeat' first
      | (with_reducible exact spec_CondOk.mono _ _)
      | (with_reducible exact spec_l7Plain.mono _ _ _)
      | (with_reducible exact LeO.refl _)
      | (with_reducible exact LeO.none _)
      | (with_reducible refine LeO.ite ?_ ?_)
      | (with_reducible refine LeO.bind ?_ (fun _ => ?_))
      | exact spec_CondOk.mono _ _
      | exact spec_l7Plain.mono _ _ _
      | exact LeO.none _
      | refine LeO.ite ?_ ?_
      | refine LeO.bind ?_ (fun _ => ?_)
set_option maxHeartbeats 8000000 in
set_option maxRecDepth 100000 in
theorem spec_Plain.calls (k : Nat) (A0 : Option Addr) (c0 : Nat) (l0 : List (S45)) (r : List (S45)) (w : World) (hr0 : Kd.C k45 w A0 l0.length l0) (hc0 : l0.length ≤ c0) (h : spec_Plain.f k l0 = some r) :
    Calls Try.prog 18 #[.slice A0 l0.length c0] w fun e w' => ∃ v0_ : Value, e = .returned (v0_) ∧ Kd.R k45 45 w' w.heap.size (fun _ => True) v0_ r ∧ Below w.heap.size w w' := by
  have HR0 := Aside0.mk hr0
  have HC0 := Aside0.mk hc0
  clear hr0 hc0
  have HB := Aside0.mk (Below.refl w.heap.size w)
  have H : ((spec_CondOk.f k l0).bind fun t188 => (if t188 = true then ((some (([] : List (S45)) : List (S45))).bind fun y189 => ((spec_l7Plain.f k l0 false).bind fun t192 => (if y189.length + t192.length < 4398046511104 then (some (y189 ++ t192)) else (none)))) else (some (([] : List (S45)))))) = some r := h
  clear h
  replace H := Option.bind_eq_some_iff.mp H
  obtain ⟨t188, A20, H⟩ := H
  replace H : (if t188 = true then ((some (([] : List (S45)) : List (S45))).bind fun y189 => ((spec_l7Plain.f k l0 false).bind fun t192 => (if y189.length + t192.length < 4398046511104 then (some (y189 ++ t192)) else (none)))) else (some (([] : List (S45))))) = some r := H
  have A2 := Aside0.mk A20
  clear A20
  by_cases c3 : t188 = true
  · subst c3
    have H1 : ((some (([] : List (S45)) : List (S45))).bind fun y189 => ((spec_l7Plain.f k l0 false).bind fun t192 => (if y189.length + t192.length < 4398046511104 then (some (y189 ++ t192)) else (none)))) = some r := by rw [if_pos rfl] at H; exact H
    clear H
    have H := H1
    clear H1
    obtain ⟨y189, hy189⟩ : ∃ y_ : List (S45), y_ = (([] : List (S45))) := ⟨_, rfl⟩
    replace H : ((spec_l7Plain.f k l0 false).bind fun t192 => (if y189.length + t192.length < 4398046511104 then (some (y189 ++ t192)) else (none))) = some r := by first | (rw [hy189]; with_reducible exact H) | (have H2_ := (Option.bind_some _ _).symm.trans H; rw [hy189]; with_reducible exact H2_) | (have H2_ := (Option.bind_some _ _).symm.trans H; with_reducible exact H2_) | with_reducible exact H | (rw [hy189]; exact H) | exact H
    have Ny189 := Aside0.mk hy189
    clear hy189
    replace H := Option.bind_eq_some_iff.mp H
    obtain ⟨t192, A40, H⟩ := H
    replace H : (if y189.length + t192.length < 4398046511104 then (some (y189 ++ t192)) else (none)) = some r := H
    have A4 := Aside0.mk A40
    clear A40
    by_cases c5 : y189.length + t192.length < 4398046511104
    · rw [if_pos c5] at H
      have LMc5 := Aside0.mk c5
      clear c5
      obtain ⟨y195, hy195⟩ : ∃ y_ : List (S45), y_ = (y189 ++ t192) := ⟨_, rfl⟩
      replace H : (some y195) = some r := by first | (rw [hy195]; with_reducible exact H) | (have H2_ := (Option.bind_some _ _).symm.trans H; rw [hy195]; with_reducible exact H2_) | (have H2_ := (Option.bind_some _ _).symm.trans H; with_reducible exact H2_) | with_reducible exact H | (rw [hy195]; exact H) | exact H
      have Ny195 := Aside0.mk hy195
      clear hy195
      obtain rfl := Option.some.inj H
      go_enter Try.func18, Try.ntmps18
      go_wp2_with (first | ((with_reducible refine gate_callee (f := 9) rfl ?_); refine goesL_ (some 4) rfl rfl Try.func9 (by kernel_rfl) rfl #[.slice A0 l0.length c0] rfl (by (try simp only [List.map_toArray, List.map_cons, List.map_nil]); first | done | rfl | (simp only [List.length_drop, List.length_take]; rfl)) ?_; (with_reducible refine (spec_CondOk.calls k _ _ l0 true _ ?side1 ?side2 A2.out).mono ?_); (case side1 => repeat (first | exact HR0.out | (with_reducible refine Kd.C_alloc ?_ _) | (with_reducible refine Kd.C_drewN ?_ _) | (with_reducible refine Kd.C_drew ?_))); (case side2 => exact HC0.out); rintro e w' ⟨rfl, ⟨nd, rfl⟩⟩; refine ⟨_, rfl, ?_⟩) | ((with_reducible refine gate_dst (N := 7) rfl ?_); refine Kd.R_lit k45 _ 45 ?hg (N := 7) ?hd (xs := ([] : List (S45))) (inner := []) (ok := fun _ => True) (okp := fun _ => True) ?hr ?hp (fun _ hk => hk) trivial (Below.refl _ _) (Nat.le_refl _) (by simp) ?_; (case hd => rfl); (case hg => rfl); (case hr => first | (go_simp; done) | (go_simp; rfl)); (case hp => exact (Reps.none _ _)); intro v190 w6 ho7 hb hg_ hnew_; clear hg_ hnew_; (first | rw [← Ny189.out] at ho7 | (simp only [Int.reduceToNat] at ho7; rw [← Ny189.out] at ho7)); have n0_ := Aside0.mk (Kd.R_lower ho7 (below_size (by repeat (first | (with_reducible first | exact HB.out | apply below_alloc | apply pw_below_drewN | apply below_drew1) | exact HB.out)))); have n1_ := Aside0.mk (below_step (by repeat (first | (with_reducible first | exact HB.out | apply below_alloc | apply pw_below_drewN | apply below_drew1) | exact HB.out)) hb); clear HB; have HO191 := n0_; have HB := n1_; clear n0_ n1_; clear hb ho7) | ((with_reducible refine gate_callee (f := 34) rfl ?_); refine goesL_ (some 9) rfl rfl Try.func34 (by kernel_rfl) rfl #[.slice A0 l0.length c0, .bool false] rfl (by (try simp only [List.map_toArray, List.map_cons, List.map_nil]); first | done | rfl | (simp only [List.length_drop, List.length_take]; rfl)) ?_; (with_reducible refine (spec_l7Plain.calls k (fun k_ => k_ < w.heap.size) _ _ l0 false t192 _ ?side1 A4.out).mono ?_); (case side1 => exact Kd.V_mk HC0.out (Kd.F_below (Kd.C_F k45_heap HR0.out) (by repeat (first | (with_reducible first | exact HB.out | apply below_alloc | apply pw_below_drewN | apply below_drew1) | exact HB.out)))); rintro e w8 ⟨v193, rfl, ho0, hb⟩; refine ⟨_, rfl, ?_⟩; have n0_ := Aside0.mk (Kd.R_below (by (with_reducible repeat (first | apply Kd.R_alloc | apply Kd.R_drewN | apply Kd.R_drew)); exact HO191.out) hb); have n1_ := Aside0.mk (Kd.V_lower (Kd.V_mono (ok' := fun k_ => some k_ ≠ (v190 : Value).ownBlock) ho0 (fun k_ hk_ => Or.elim hk_ (fun hs_ => fun e_ => Nat.not_le.2 hs_ (Kd.R_base HO191.out k_ e_.symm)) (fun hn_ => (Kd.fresh' (Kd.R_lt (by (with_reducible repeat (first | apply Kd.R_alloc | apply Kd.R_drewN | apply Kd.R_drew)); exact HO191.out)) k_ hn_)))) (below_size (by repeat (first | (with_reducible first | exact HB.out | apply below_alloc | apply pw_below_drewN | apply below_drew1) | exact HB.out)))); have n2_ := Aside0.mk (below_step (by repeat (first | (with_reducible first | exact HB.out | apply below_alloc | apply pw_below_drewN | apply below_drew1) | exact HB.out)) hb); clear HO191; clear HB; have HO191 := n0_; have HO194 := n1_; have HB := n2_; clear n0_ n1_ n2_; (try clear hb); (try clear hb2); (try clear hk); (try clear hi); (try clear ho0); obtain ⟨Ao10, co10, eo10⟩ := Kd.V_slice HO194.out; subst eo10) | ((with_reducible refine gate_builtin (b := .append) (xs := #[.tmp 7, .tmp 9]) rfl ?_); at_builtin; refine Kd.R_append_rows k45 (w0 := w) w.heap.size rfl (.tmp 7) (.tmp 9) 25 45 (.agg #[(.int .i64 0), (.string ⟨#[]⟩), (.int .i64 0)]) 32 rfl Try.underlying25 info45 rfl (by decide) (by omega) v190 y189 t192 _ _ _ (fun _ => True) (fun _ => False) rfl rfl ?aO ?aR (fun _ _ h => h) (fun _ h => h.elim) ?aF ?aB ?aS ?aL ?_; (case aR => repeat (first | exact (Kd.V_reads' HO194.out).2.2 | (with_reducible refine Kd.C_alloc ?_ _) | (with_reducible refine Kd.C_drewN ?_ _) | (with_reducible refine Kd.C_drew ?_))); (case aB => exact (by repeat (first | (with_reducible first | exact HB.out | apply below_alloc | apply pw_below_drewN | apply below_drew1) | exact HB.out))); (case aF => exact (fun _ _ => trivial)); (case aO => exact (by (with_reducible repeat (first | apply Kd.R_alloc | apply Kd.R_drewN | apply Kd.R_drew)); exact HO191.out)); (case aS => exact (below_size (by repeat (first | (with_reducible first | exact HB.out | apply below_alloc | apply pw_below_drewN | apply below_drew1) | exact HB.out)))); (case aL => have := LMc5.out; omega); intro v196 w9 ho hb hg hat; rw [← Ny195.out] at ho; have n0_ := Aside0.mk (Kd.V_afterv (ok := (fun _ => True)) (by (with_reducible repeat (first | apply Kd.V_alloc | apply Kd.V_drewN | apply Kd.V_drew)); exact Kd.V_mono HO194.out (fun _ hk => ⟨trivial, hk⟩)) hg hat); have n1_ := Aside0.mk (hb); have n2_ := Aside0.mk (ho); clear HO194; clear HB; clear HO191; have HO194 := n0_; have HB := n1_; have HO197 := n2_; clear n0_ n1_ n2_; clear ho hb hg hat))
      go_ret
      exact ⟨_, by first | rfl | (simp [errW_none, errW_some] <;> rfl) | (simp [*, errW_none, errW_some] <;> rfl), by (with_reducible repeat (first | apply Kd.R_alloc | apply Kd.R_drewN | apply Kd.R_drew)); exact HO197.out, by repeat (first | (with_reducible first | exact HB.out | apply below_alloc | apply pw_below_drewN | apply below_drew1) | exact HB.out)⟩
    · rw [if_neg c5] at H
      exact absurd H (by simp)
  · replace c3 := Bool.eq_false_iff.mpr c3
    subst c3
    have H1 : (some (([] : List (S45)))) = some r := by rw [if_neg (show ¬ (false = true) by decide)] at H; exact H
    clear H
    have H := H1
    clear H1
    obtain ⟨y198, hy198⟩ : ∃ y_ : List (S45), y_ = (([] : List (S45))) := ⟨_, rfl⟩
    replace H : (some y198) = some r := by first | (rw [hy198]; with_reducible exact H) | (have H2_ := (Option.bind_some _ _).symm.trans H; rw [hy198]; with_reducible exact H2_) | (have H2_ := (Option.bind_some _ _).symm.trans H; with_reducible exact H2_) | with_reducible exact H | (rw [hy198]; exact H) | exact H
    have Ny198 := Aside0.mk hy198
    clear hy198
    obtain rfl := Option.some.inj H
    go_enter Try.func18, Try.ntmps18
    go_wp2_with (first | ((with_reducible refine gate_callee (f := 9) rfl ?_); refine goesL_ (some 4) rfl rfl Try.func9 (by kernel_rfl) rfl #[.slice A0 l0.length c0] rfl (by (try simp only [List.map_toArray, List.map_cons, List.map_nil]); first | done | rfl | (simp only [List.length_drop, List.length_take]; rfl)) ?_; (with_reducible refine (spec_CondOk.calls k _ _ l0 false _ ?side1 ?side2 A2.out).mono ?_); (case side1 => repeat (first | exact HR0.out | (with_reducible refine Kd.C_alloc ?_ _) | (with_reducible refine Kd.C_drewN ?_ _) | (with_reducible refine Kd.C_drew ?_))); (case side2 => exact HC0.out); rintro e w' ⟨rfl, ⟨nd, rfl⟩⟩; refine ⟨_, rfl, ?_⟩) | ((with_reducible refine gate_dst (N := 6) rfl ?_); refine Kd.R_lit k45 _ 45 ?hg (N := 6) ?hd (xs := ([] : List (S45))) (inner := []) (ok := fun _ => True) (okp := fun _ => True) ?hr ?hp (fun _ hk => hk) trivial (Below.refl _ _) (Nat.le_refl _) (by simp) ?_; (case hd => rfl); (case hg => rfl); (case hr => first | (go_simp; done) | (go_simp; rfl)); (case hp => exact (Reps.none _ _)); intro v199 w11 ho12 hb hg_ hnew_; clear hg_ hnew_; (first | rw [← Ny198.out] at ho12 | (simp only [Int.reduceToNat] at ho12; rw [← Ny198.out] at ho12)); have n0_ := Aside0.mk (Kd.R_lower ho12 (below_size (by repeat (first | (with_reducible first | exact HB.out | apply below_alloc | apply pw_below_drewN | apply below_drew1) | exact HB.out)))); have n1_ := Aside0.mk (below_step (by repeat (first | (with_reducible first | exact HB.out | apply below_alloc | apply pw_below_drewN | apply below_drew1) | exact HB.out)) hb); clear HB; have HO200 := n0_; have HB := n1_; clear n0_ n1_; clear hb ho12))
    go_ret
    exact ⟨_, by first | rfl | (simp [errW_none, errW_some] <;> rfl) | (simp [*, errW_none, errW_some] <;> rfl), by (with_reducible repeat (first | apply Kd.R_alloc | apply Kd.R_drewN | apply Kd.R_drew)); exact HO200.out, by repeat (first | (with_reducible first | exact HB.out | apply below_alloc | apply pw_below_drewN | apply below_drew1) | exact HB.out)⟩

-- NOT PRINTED: function 29 (impl_condTree)

-- NOT PRINTED: function 35 (impl_cond_plain)

-- NOT PRINTED: function 36 (impl_cond_flat)

-- NOT PRINTED: function 19 (impl_Plain)

/-! ### impl_letter: function 59 -/
def impl_letter.f (a0 : Int) : Option (Bool) := if a0 ≥ 97 then (if a0 ≤ 122 then (some true) else (if a0 ≥ 65 then (some (decide (a0 ≤ 90))) else (some false))) else (if a0 ≥ 65 then (some (decide (a0 ≤ 90))) else (some false))
set_option maxHeartbeats 8000000 in
set_option maxRecDepth 100000 in
theorem impl_letter.calls (a0 : Int) (r : Bool) (w : World) (h : impl_letter.f a0 = some r) :
    Calls Try.prog 59 #[.int .u8 a0] w fun e w' => e = .returned (.bool r) ∧ Drawn0 w w' := by
  have H : (if a0 ≥ 97 then (if a0 ≤ 122 then (some true) else (if a0 ≥ 65 then (some (decide (a0 ≤ 90))) else (some false))) else (if a0 ≥ 65 then (some (decide (a0 ≤ 90))) else (some false))) = some r := h
  clear h
  by_cases c2 : a0 ≥ 97
  · rw [if_pos c2] at H
    have c2b0 : decide (97 ≤ a0) = true := decide_eq_true c2
    clear c2
    by_cases c3 : a0 ≤ 122
    · rw [if_pos c3] at H
      have c3b0 : decide (a0 ≤ 122) = true := decide_eq_true c3
      clear c3
      obtain rfl := Option.some.inj H
      go_enter Try.func59, Try.ntmps59
      go_wp2
      go_ret
      exact ⟨by first | rfl | (simp; done) | (simp [*]; done), by repeat (first | exact Drawn0.refl _ | apply Drawn0.step)⟩
    · rw [if_neg c3] at H
      have c3b0 : decide (a0 ≤ 122) = false := decide_eq_false c3
      clear c3
      by_cases c4 : a0 ≥ 65
      · rw [if_pos c4] at H
        have c4b0 : decide (65 ≤ a0) = true := decide_eq_true c4
        clear c4
        obtain rfl := Option.some.inj H
        go_enter Try.func59, Try.ntmps59
        go_wp2
        go_ret
        exact ⟨by first | rfl | (simp; done) | (simp [*]; done), by repeat (first | exact Drawn0.refl _ | apply Drawn0.step)⟩
      · rw [if_neg c4] at H
        have c4b0 : decide (65 ≤ a0) = false := decide_eq_false c4
        clear c4
        obtain rfl := Option.some.inj H
        go_enter Try.func59, Try.ntmps59
        go_wp2
        go_ret
        exact ⟨by first | rfl | (simp; done) | (simp [*]; done), by repeat (first | exact Drawn0.refl _ | apply Drawn0.step)⟩
  · rw [if_neg c2] at H
    have c2b0 : decide (97 ≤ a0) = false := decide_eq_false c2
    clear c2
    by_cases c5 : a0 ≥ 65
    · rw [if_pos c5] at H
      have c5b0 : decide (65 ≤ a0) = true := decide_eq_true c5
      clear c5
      obtain rfl := Option.some.inj H
      go_enter Try.func59, Try.ntmps59
      go_wp2
      go_ret
      exact ⟨by first | rfl | (simp; done) | (simp [*]; done), by repeat (first | exact Drawn0.refl _ | apply Drawn0.step)⟩
    · rw [if_neg c5] at H
      have c5b0 : decide (65 ≤ a0) = false := decide_eq_false c5
      clear c5
      obtain rfl := Option.some.inj H
      go_enter Try.func59, Try.ntmps59
      go_wp2
      go_ret
      exact ⟨by first | rfl | (simp; done) | (simp [*]; done), by repeat (first | exact Drawn0.refl _ | apply Drawn0.step)⟩

/-! ### impl_digit: function 60 -/
def impl_digit.f (a0 : Int) : Option (Bool) := if a0 ≥ 48 then (some (decide (a0 ≤ 57))) else (some false)
set_option maxHeartbeats 8000000 in
set_option maxRecDepth 100000 in
theorem impl_digit.calls (a0 : Int) (r : Bool) (w : World) (h : impl_digit.f a0 = some r) :
    Calls Try.prog 60 #[.int .u8 a0] w fun e w' => e = .returned (.bool r) ∧ Drawn0 w w' := by
  have H : (if a0 ≥ 48 then (some (decide (a0 ≤ 57))) else (some false)) = some r := h
  clear h
  by_cases c2 : a0 ≥ 48
  · rw [if_pos c2] at H
    have c2b0 : decide (48 ≤ a0) = true := decide_eq_true c2
    clear c2
    obtain rfl := Option.some.inj H
    go_enter Try.func60, Try.ntmps60
    go_wp2
    go_ret
    exact ⟨by first | rfl | (simp; done) | (simp [*]; done), by repeat (first | exact Drawn0.refl _ | apply Drawn0.step)⟩
  · rw [if_neg c2] at H
    have c2b0 : decide (48 ≤ a0) = false := decide_eq_false c2
    clear c2
    obtain rfl := Option.some.inj H
    go_enter Try.func60, Try.ntmps60
    go_wp2
    go_ret
    exact ⟨by first | rfl | (simp; done) | (simp [*]; done), by repeat (first | exact Drawn0.refl _ | apply Drawn0.step)⟩

end Go.Proofs.Ytoipkndeeeolcaa.PFnExactPlain
