-- Laid by a program of this session: a turned copy of the kit's print, with contracts by hand beside.
import Derived.Test.YtoipkndeeeolcaaPFnExactHoldsx0
import Derived.Test.YtoipkndeeeolcaaPFnExactHoldsx1
import Derived.Test.YtoipkndeeeolcaaPFnExactHoldsx4
namespace Go.Proofs.Ytoipkndeeeolcaa.PFnExactHolds
open Go.RowKit Go.Proofs.YtoipkndeeeolcaaW.PrintWords Go.Proofs.YtoipkndeeeolcaaW.PrintLast Go.Proofs.YtoipkndeeeolcaaW.PrintMore
attribute [local go_sem] max2_int min2_int max_two min_two max_three min_three max_four min_four   -- for this text's walks alone
set_option linter.unusedVariables false
set_option linter.unusedSimpArgs false

/-! ### spec_l7Holds: function 31 -/
mutual
def spec_l7Holds.l0 : Nat → List (S45) → List ByteArray → List Int → Int → Option (Bool)
  | 0, _, _, _, _ => none
  | k + 1, x0, x1, x5, x6 => if x6 < (x5.length : Int) then (if 0 ≤ x6 then (if 0 ≤ (rd x5 x6) then (if (rd x5 x6) ≤ (hi44 x0 (rd x5 x6)) then (if (hi44 x0 (rd x5 x6)) ≤ (x0.length : Int) ∧ (rd x5 x6) < (x0.length : Int) then ((spec_l7Holds.f k ((x0.take ((hi44 x0 (rd x5 x6)) : Int).toNat).drop ((rd x5 x6) : Int).toNat) x1).bind fun t149 => (if 0 < (x0.length : Int) then (if (t149 != (((rd_T45 x0 0).f0) == 5)) = true then (some (((rd_T45 x0 0).f0) == 6)) else (spec_l7Holds.l0 k x0 x1 x5 (wrap64 (x6 + 1)))) else (none))) else (none)) else (none)) else (none)) else (none)) else (if 0 < (x0.length : Int) then (some (((rd_T45 x0 0).f0) == 5)) else (none))
def spec_l7Holds.f : Nat → List (S45) → List ByteArray → Option (Bool)
  | 0, _, _ => none
  | k + 1, l0, l1 => (spec_l7Starts.f k l0).bind fun t133 => (if 0 < (l0.length : Int) then (if ((rd_T45 l0 0).f0) = 1 then ((spec_l3Has.f k l1 ((rd_T45 l0 0).f1)).bind fun t138 => (some t138)) else (if ((rd_T45 l0 0).f0) = 2 then (some true) else (if ((rd_T45 l0 0).f0) = 3 then (some false) else (if ((rd_T45 l0 0).f0) = 4 then (if 1 ≤ (l0.length : Int) then ((spec_l7Holds.f k (l0.drop 1) l1).bind fun t143 => (some (!t143))) else (none)) else (spec_l7Holds.l0 k l0 l1 t133 0))))) else (none))
end
theorem spec_l7Holds.mono_l : ∀ k, (∀ y0 y1, LeO (spec_l7Holds.f k y0 y1) (spec_l7Holds.f (k + 1) y0 y1)) ∧ (∀ y0 y1 y2 y3, LeO (spec_l7Holds.l0 k y0 y1 y2 y3) (spec_l7Holds.l0 (k + 1) y0 y1 y2 y3))
  | 0 => ⟨fun _ _ r h => by simp [spec_l7Holds.f] at h, fun _ _ _ _ r h => by simp [spec_l7Holds.l0] at h⟩
  | k + 1 => by
    obtain ⟨ih0, ih1⟩ := spec_l7Holds.mono_l k
    refine ⟨?_, ?_⟩
    · intro y0 y1
      unfold spec_l7Holds.f
      repeat' first
      | (with_reducible exact ih0 _ _)
      | (with_reducible exact ih1 _ _ _ _)
      | (with_reducible exact spec_l3Has.mono _ _ _)
      | (with_reducible exact spec_l7Starts.mono _ _)
      | (with_reducible exact LeO.refl _)
      | (with_reducible exact LeO.none _)
      | (with_reducible refine LeO.ite ?_ ?_)
      | (with_reducible refine LeO.bind ?_ (fun _ => ?_))
      | exact ih0 _ _
      | exact ih1 _ _ _ _
      | exact spec_l3Has.mono _ _ _
      | exact spec_l7Starts.mono _ _
      | exact LeO.none _
      | refine LeO.ite ?_ ?_
      | refine LeO.bind ?_ (fun _ => ?_)
    · intro y0 y1 y2 y3
      unfold spec_l7Holds.l0
      repeat' first
      | (with_reducible exact ih0 _ _)
      | (with_reducible exact ih1 _ _ _ _)
      | (with_reducible exact spec_l3Has.mono _ _ _)
      | (with_reducible exact spec_l7Starts.mono _ _)
      | (with_reducible exact LeO.refl _)
      | (with_reducible exact LeO.none _)
      | (with_reducible refine LeO.ite ?_ ?_)
      | (with_reducible refine LeO.bind ?_ (fun _ => ?_))
      | exact ih0 _ _
      | exact ih1 _ _ _ _
      | exact spec_l3Has.mono _ _ _
      | exact spec_l7Starts.mono _ _
      | exact LeO.none _
      | refine LeO.ite ?_ ?_
      | refine LeO.bind ?_ (fun _ => ?_)
theorem spec_l7Holds.mono : ∀ a0 a1 k, LeO (spec_l7Holds.f k a0 a1) (spec_l7Holds.f (k + 1) a0 a1) := by
  intro a0 a1 k
  obtain ⟨ih0, ih1⟩ := spec_l7Holds.mono_l k
  exact ih0 a0 a1
def spec_l7Holds.T14 : Bool × List (List Nat × List Nat) := (true, [([], []), ([], []), ([], []), ([1, 2], [1, 2]), ([3], [3]), ([0, 4], [0, 4]), ([], []), ([5, 6, 5], [5, 6]), ([], []), ([8], [8]), ([9], [9]), ([10], [10]), ([11], [11]), ([7, 12], [7, 12])])
def spec_l7Holds.B14 : List Nat := [0, 0, 0, 6, 14, 31, 0, 127, 0, 256, 768, 1792, 3840, 8191]
theorem spec_l7Holds.tab14 : rtab .any (opsOf Try.f31 14) = spec_l7Holds.T14 := by kernel_rfl
theorem spec_l7Holds.bits14 : waitsOk spec_l7Holds.T14.2 spec_l7Holds.B14 = true := by kernel_rfl
set_option maxHeartbeats 8000000 in
set_option maxRecDepth 100000 in
theorem spec_l7Holds.calls (k : Nat) : ∀ (A0 : Option Addr) (c0 : Nat) (l0 : List (S45)) (A1 : Option Addr) (c1 : Nat) (l1 : List ByteArray) (r : Bool) (w : World) (hr0 : Kd.C k45 w A0 l0.length l0) (hc0 : l0.length ≤ c0) (hr1 : Kd.C Kd.string w A1 l1.length l1) (hc1 : l1.length ≤ c1) (h : spec_l7Holds.f k l0 l1 = some r),
    Calls Try.prog 31 #[.slice A0 l0.length c0, .slice A1 l1.length c1] w fun e w' => e = .returned (.bool r) ∧ Below w.heap.size w w' := by
  induction k using Nat.strongRecOn with
  | _ k ih =>
  intro A0 c0 l0 A1 c1 l1 r w hr0 hc0 hr1 hc1 h
  cases k with
  | zero => exact absurd h (by simp [spec_l7Holds.f])
  | succ k =>
  simp only [spec_l7Holds.f] at h
  have HR0 := Aside0.mk hr0
  have HC0 := Aside0.mk hc0
  clear hr0 hc0
  have HR1 := Aside0.mk hr1
  have HC1 := Aside0.mk hc1
  clear hr1 hc1
  have HB := Aside0.mk (Below.refl w.heap.size w)
  have H : ((spec_l7Starts.f k l0).bind fun t133 => (if 0 < (l0.length : Int) then (if ((rd_T45 l0 0).f0) = 1 then ((spec_l3Has.f k l1 ((rd_T45 l0 0).f1)).bind fun t138 => (some t138)) else (if ((rd_T45 l0 0).f0) = 2 then (some true) else (if ((rd_T45 l0 0).f0) = 3 then (some false) else (if ((rd_T45 l0 0).f0) = 4 then (if 1 ≤ (l0.length : Int) then ((spec_l7Holds.f k (l0.drop 1) l1).bind fun t143 => (some (!t143))) else (none)) else (spec_l7Holds.l0 k l0 l1 t133 0))))) else (none))) = some r := h
  clear h
  replace H := Option.bind_eq_some_iff.mp H
  obtain ⟨t133, A30, H⟩ := H
  replace H : (if 0 < (l0.length : Int) then (if ((rd_T45 l0 0).f0) = 1 then ((spec_l3Has.f k l1 ((rd_T45 l0 0).f1)).bind fun t138 => (some t138)) else (if ((rd_T45 l0 0).f0) = 2 then (some true) else (if ((rd_T45 l0 0).f0) = 3 then (some false) else (if ((rd_T45 l0 0).f0) = 4 then (if 1 ≤ (l0.length : Int) then ((spec_l7Holds.f k (l0.drop 1) l1).bind fun t143 => (some (!t143))) else (none)) else (spec_l7Holds.l0 k l0 l1 t133 0))))) else (none)) = some r := H
  have A3 := Aside0.mk A30
  clear A30
  by_cases c4 : 0 < (l0.length : Int)
  · rw [if_pos c4] at H
    have c4b0 : decide (0 < (l0.length : Int)) = true := decide_eq_true c4
    have c4b1 : decide (0 < l0.length) = true := decide_eq_true (by omega)
    clear c4
    by_cases c5 : ((rd_T45 l0 0).f0) = 1
    · rw [if_pos c5] at H
      have c5b0 : (((rd_T45 l0 0).f0) == 1) = true := beq_iff_eq.mpr c5
      have c5b1 : (((rd_T45 l0 0).f0) != 1) = false := bne_eq_false_iff_eq.mpr c5
      clear c5
      replace H := Option.bind_eq_some_iff.mp H
      obtain ⟨t138, A60, H⟩ := H
      replace H : (some t138) = some r := H
      have A6 := Aside0.mk A60
      clear A60
      obtain rfl := Option.some.inj H
      go_enter Try.func31, Try.ntmps31
      go_wp2_with (first | ((with_reducible refine gate_callee (f := 48) rfl ?_); refine goesL_ (some 8) rfl rfl Try.func48 (by kernel_rfl) rfl #[.slice A0 l0.length c0] rfl (by (try simp only [List.map_toArray, List.map_cons, List.map_nil]); first | done | rfl | (simp only [List.length_drop, List.length_take]; rfl)) ?_; (with_reducible refine (spec_l7Starts.calls k _ _ l0 t133 _ ?side1 ?side2 A3.out).mono ?_); (case side1 => repeat (first | exact HR0.out | (with_reducible refine Kd.C_alloc ?_ _) | (with_reducible refine Kd.C_drewN ?_ _) | (with_reducible refine Kd.C_drew ?_))); (case side2 => exact HC0.out); rintro e w7 ⟨v134, rfl, ho0, hb⟩; refine ⟨_, rfl, ?_⟩; have n0_ := Aside0.mk (Kd.R_lower ho0 (below_size (by repeat (first | (with_reducible first | exact HB.out | apply below_alloc | apply pw_below_drewN | apply below_drew1) | exact HB.out)))); have n1_ := Aside0.mk (below_step (by repeat (first | (with_reducible first | exact HB.out | apply below_alloc | apply pw_below_drewN | apply below_drew1) | exact HB.out)) hb); clear HB; have HO135 := n0_; have HB := n1_; clear n0_ n1_; (try clear hb); (try clear hb2); (try clear hk); (try clear hi); (try clear ho0); have p136 : 0 ≤ (0 : Int) := (by omega); have q136 : 0 < (l0.length : Int) := of_decide_eq_true (by first | (with_reducible assumption) | assumption); obtain ⟨ad136, e136, hx136_0, hx136_1, hx136_2⟩ := at_T45 HR0.out 0 p136 q136; cases e136; have qi136 : (0 < l0.length) = True := eq_true (by omega); (try rw [show ((0 : Int)).toNat = 0 from rfl] at hx136_0); (try rw [show 0 * 3 = 0 from rfl] at hx136_0); (try rw [Addr.add_zero'] at hx136_0); (try rw [show ((0 : Int)).toNat = 0 from rfl] at hx136_1); (try rw [show 0 * 3 = 0 from rfl] at hx136_1); (try rw [Addr.add_zero'] at hx136_1); (try rw [show ((0 : Int)).toNat = 0 from rfl] at hx136_2); (try rw [show 0 * 3 = 0 from rfl] at hx136_2); (try rw [Addr.add_zero'] at hx136_2); replace hx136_0 := (HB.out.cell (World.block_lt_of_cell? w _ hx136_0)).trans hx136_0; replace hx136_1 := (HB.out.cell (World.block_lt_of_cell? w _ hx136_1)).trans hx136_1; replace hx136_2 := (HB.out.cell (World.block_lt_of_cell? w _ hx136_2)).trans hx136_2; replace p136 := eq_true p136; replace q136 := eq_true q136; have p137 : 0 ≤ (0 : Int) := (by omega); have q137 : 0 < (l0.length : Int) := of_decide_eq_true (by first | (with_reducible assumption) | assumption); obtain ⟨ad137, e137, hx137_0, hx137_1, hx137_2⟩ := at_T45 HR0.out 0 p137 q137; obtain rfl : ad136 = ad137 := (by injection e137); have qi137 : (0 < l0.length) = True := eq_true (by omega); (try rw [show ((0 : Int)).toNat = 0 from rfl] at hx137_0); (try rw [show 0 * 3 = 0 from rfl] at hx137_0); (try rw [Addr.add_zero'] at hx137_0); (try rw [show ((0 : Int)).toNat = 0 from rfl] at hx137_1); (try rw [show 0 * 3 = 0 from rfl] at hx137_1); (try rw [Addr.add_zero'] at hx137_1); (try rw [show ((0 : Int)).toNat = 0 from rfl] at hx137_2); (try rw [show 0 * 3 = 0 from rfl] at hx137_2); (try rw [Addr.add_zero'] at hx137_2); replace hx137_0 := (HB.out.cell (World.block_lt_of_cell? w _ hx137_0)).trans hx137_0; replace hx137_1 := (HB.out.cell (World.block_lt_of_cell? w _ hx137_1)).trans hx137_1; replace hx137_2 := (HB.out.cell (World.block_lt_of_cell? w _ hx137_2)).trans hx137_2; replace p137 := eq_true p137; replace q137 := eq_true q137) | ((with_reducible refine gate_callee (f := 49) rfl ?_); refine goesL_ (some 20) rfl rfl Try.func49 (by kernel_rfl) rfl #[.slice A1 l1.length c1, .string ((rd_T45 l0 0).f1)] rfl (by (try simp only [List.map_toArray, List.map_cons, List.map_nil]); first | done | rfl | (simp only [List.length_drop, List.length_take]; rfl)) ?_; (with_reducible refine (spec_l3Has.calls k _ _ l1 ((rd_T45 l0 0).f1) t138 _ ?side1 ?side2 A6.out).mono ?_); (case side1 => repeat (first | exact (Kd.C_below HR1.out HB.out) | (with_reducible refine Kd.C_alloc ?_ _) | (with_reducible refine Kd.C_drewN ?_ _) | (with_reducible refine Kd.C_drew ?_))); (case side2 => exact HC1.out); rintro e w' ⟨rfl, ⟨nd, rfl⟩⟩; refine ⟨_, rfl, ?_⟩))
      go_ret
      exact ⟨by first | rfl | (simp [errW_none, errW_some] <;> rfl) | (simp [*, errW_none, errW_some] <;> rfl), by repeat (first | (with_reducible first | exact HB.out | apply below_alloc | apply pw_below_drewN | apply below_drew1) | exact HB.out)⟩
    · rw [if_neg c5] at H
      have c5b0 : (((rd_T45 l0 0).f0) == 1) = false := beq_eq_false_iff_ne.mpr c5
      have c5b1 : (((rd_T45 l0 0).f0) != 1) = true := bne_iff_ne.mpr c5
      by_cases c8 : ((rd_T45 l0 0).f0) = 2
      · rw [if_pos c8] at H
        have c8b0 : (((rd_T45 l0 0).f0) == 2) = true := beq_iff_eq.mpr c8
        have c8b1 : (((rd_T45 l0 0).f0) != 2) = false := bne_eq_false_iff_eq.mpr c8
        clear c8
        obtain rfl := Option.some.inj H
        go_enter Try.func31, Try.ntmps31
        go_wp2_with (first | ((with_reducible refine gate_callee (f := 48) rfl ?_); refine goesL_ (some 8) rfl rfl Try.func48 (by kernel_rfl) rfl #[.slice A0 l0.length c0] rfl (by (try simp only [List.map_toArray, List.map_cons, List.map_nil]); first | done | rfl | (simp only [List.length_drop, List.length_take]; rfl)) ?_; (with_reducible refine (spec_l7Starts.calls k _ _ l0 t133 _ ?side1 ?side2 A3.out).mono ?_); (case side1 => repeat (first | exact HR0.out | (with_reducible refine Kd.C_alloc ?_ _) | (with_reducible refine Kd.C_drewN ?_ _) | (with_reducible refine Kd.C_drew ?_))); (case side2 => exact HC0.out); rintro e w9 ⟨v134, rfl, ho0, hb⟩; refine ⟨_, rfl, ?_⟩; have n0_ := Aside0.mk (Kd.R_lower ho0 (below_size (by repeat (first | (with_reducible first | exact HB.out | apply below_alloc | apply pw_below_drewN | apply below_drew1) | exact HB.out)))); have n1_ := Aside0.mk (below_step (by repeat (first | (with_reducible first | exact HB.out | apply below_alloc | apply pw_below_drewN | apply below_drew1) | exact HB.out)) hb); clear HB; have HO135 := n0_; have HB := n1_; clear n0_ n1_; (try clear hb); (try clear hb2); (try clear hk); (try clear hi); (try clear ho0); have p136 : 0 ≤ (0 : Int) := (by omega); have q136 : 0 < (l0.length : Int) := of_decide_eq_true (by first | (with_reducible assumption) | assumption); obtain ⟨ad136, e136, hx136_0, hx136_1, hx136_2⟩ := at_T45 HR0.out 0 p136 q136; cases e136; have qi136 : (0 < l0.length) = True := eq_true (by omega); (try rw [show ((0 : Int)).toNat = 0 from rfl] at hx136_0); (try rw [show 0 * 3 = 0 from rfl] at hx136_0); (try rw [Addr.add_zero'] at hx136_0); (try rw [show ((0 : Int)).toNat = 0 from rfl] at hx136_1); (try rw [show 0 * 3 = 0 from rfl] at hx136_1); (try rw [Addr.add_zero'] at hx136_1); (try rw [show ((0 : Int)).toNat = 0 from rfl] at hx136_2); (try rw [show 0 * 3 = 0 from rfl] at hx136_2); (try rw [Addr.add_zero'] at hx136_2); replace hx136_0 := (HB.out.cell (World.block_lt_of_cell? w _ hx136_0)).trans hx136_0; replace hx136_1 := (HB.out.cell (World.block_lt_of_cell? w _ hx136_1)).trans hx136_1; replace hx136_2 := (HB.out.cell (World.block_lt_of_cell? w _ hx136_2)).trans hx136_2; replace p136 := eq_true p136; replace q136 := eq_true q136))
        go_ret
        exact ⟨by first | rfl | (simp [errW_none, errW_some] <;> rfl) | (simp [*, errW_none, errW_some] <;> rfl), by repeat (first | (with_reducible first | exact HB.out | apply below_alloc | apply pw_below_drewN | apply below_drew1) | exact HB.out)⟩
      · rw [if_neg c8] at H
        have c8b0 : (((rd_T45 l0 0).f0) == 2) = false := beq_eq_false_iff_ne.mpr c8
        have c8b1 : (((rd_T45 l0 0).f0) != 2) = true := bne_iff_ne.mpr c8
        by_cases c10 : ((rd_T45 l0 0).f0) = 3
        · rw [if_pos c10] at H
          have c10b0 : (((rd_T45 l0 0).f0) == 3) = true := beq_iff_eq.mpr c10
          have c10b1 : (((rd_T45 l0 0).f0) != 3) = false := bne_eq_false_iff_eq.mpr c10
          clear c10
          obtain rfl := Option.some.inj H
          go_enter Try.func31, Try.ntmps31
          go_wp2_with (first | ((with_reducible refine gate_callee (f := 48) rfl ?_); refine goesL_ (some 8) rfl rfl Try.func48 (by kernel_rfl) rfl #[.slice A0 l0.length c0] rfl (by (try simp only [List.map_toArray, List.map_cons, List.map_nil]); first | done | rfl | (simp only [List.length_drop, List.length_take]; rfl)) ?_; (with_reducible refine (spec_l7Starts.calls k _ _ l0 t133 _ ?side1 ?side2 A3.out).mono ?_); (case side1 => repeat (first | exact HR0.out | (with_reducible refine Kd.C_alloc ?_ _) | (with_reducible refine Kd.C_drewN ?_ _) | (with_reducible refine Kd.C_drew ?_))); (case side2 => exact HC0.out); rintro e w11 ⟨v134, rfl, ho0, hb⟩; refine ⟨_, rfl, ?_⟩; have n0_ := Aside0.mk (Kd.R_lower ho0 (below_size (by repeat (first | (with_reducible first | exact HB.out | apply below_alloc | apply pw_below_drewN | apply below_drew1) | exact HB.out)))); have n1_ := Aside0.mk (below_step (by repeat (first | (with_reducible first | exact HB.out | apply below_alloc | apply pw_below_drewN | apply below_drew1) | exact HB.out)) hb); clear HB; have HO135 := n0_; have HB := n1_; clear n0_ n1_; (try clear hb); (try clear hb2); (try clear hk); (try clear hi); (try clear ho0); have p136 : 0 ≤ (0 : Int) := (by omega); have q136 : 0 < (l0.length : Int) := of_decide_eq_true (by first | (with_reducible assumption) | assumption); obtain ⟨ad136, e136, hx136_0, hx136_1, hx136_2⟩ := at_T45 HR0.out 0 p136 q136; cases e136; have qi136 : (0 < l0.length) = True := eq_true (by omega); (try rw [show ((0 : Int)).toNat = 0 from rfl] at hx136_0); (try rw [show 0 * 3 = 0 from rfl] at hx136_0); (try rw [Addr.add_zero'] at hx136_0); (try rw [show ((0 : Int)).toNat = 0 from rfl] at hx136_1); (try rw [show 0 * 3 = 0 from rfl] at hx136_1); (try rw [Addr.add_zero'] at hx136_1); (try rw [show ((0 : Int)).toNat = 0 from rfl] at hx136_2); (try rw [show 0 * 3 = 0 from rfl] at hx136_2); (try rw [Addr.add_zero'] at hx136_2); replace hx136_0 := (HB.out.cell (World.block_lt_of_cell? w _ hx136_0)).trans hx136_0; replace hx136_1 := (HB.out.cell (World.block_lt_of_cell? w _ hx136_1)).trans hx136_1; replace hx136_2 := (HB.out.cell (World.block_lt_of_cell? w _ hx136_2)).trans hx136_2; replace p136 := eq_true p136; replace q136 := eq_true q136))
          go_ret
          exact ⟨by first | rfl | (simp [errW_none, errW_some] <;> rfl) | (simp [*, errW_none, errW_some] <;> rfl), by repeat (first | (with_reducible first | exact HB.out | apply below_alloc | apply pw_below_drewN | apply below_drew1) | exact HB.out)⟩
        · rw [if_neg c10] at H
          have c10b0 : (((rd_T45 l0 0).f0) == 3) = false := beq_eq_false_iff_ne.mpr c10
          have c10b1 : (((rd_T45 l0 0).f0) != 3) = true := bne_iff_ne.mpr c10
          by_cases c12 : ((rd_T45 l0 0).f0) = 4
          · rw [if_pos c12] at H
            have c12b0 : (((rd_T45 l0 0).f0) == 4) = true := beq_iff_eq.mpr c12
            have c12b1 : (((rd_T45 l0 0).f0) != 4) = false := bne_eq_false_iff_eq.mpr c12
            clear c12
            by_cases c13 : 1 ≤ (l0.length : Int)
            · rw [if_pos c13] at H
              have c13b0 := eq_true c13
              have c13b1 : decide (1 ≤ (l0.length : Int)) = true := decide_eq_true c13
              clear c13
              obtain ⟨y139, hy139⟩ : ∃ y_ : List (S45), y_ = (l0.drop 1) := ⟨_, rfl⟩
              replace H : ((spec_l7Holds.f k y139 l1).bind fun t143 => (some (!t143))) = some r := by first | (rw [hy139]; with_reducible exact H) | (have H2_ := (Option.bind_some _ _).symm.trans H; rw [hy139]; with_reducible exact H2_) | (have H2_ := (Option.bind_some _ _).symm.trans H; with_reducible exact H2_) | with_reducible exact H | (rw [hy139]; exact H) | exact H
              have Ny139 := Aside0.mk hy139
              clear hy139
              replace H := Option.bind_eq_some_iff.mp H
              obtain ⟨t143, A140, H⟩ := H
              replace H : (some (!t143)) = some r := H
              have A14 := Aside0.mk A140
              clear A140
              obtain rfl := Option.some.inj H
              go_enter Try.func31, Try.ntmps31
              go_wp2_with (first | ((with_reducible refine gate_callee (f := 48) rfl ?_); refine goesL_ (some 8) rfl rfl Try.func48 (by kernel_rfl) rfl #[.slice A0 l0.length c0] rfl (by (try simp only [List.map_toArray, List.map_cons, List.map_nil]); first | done | rfl | (simp only [List.length_drop, List.length_take]; rfl)) ?_; (with_reducible refine (spec_l7Starts.calls k _ _ l0 t133 _ ?side1 ?side2 A3.out).mono ?_); (case side1 => repeat (first | exact HR0.out | (with_reducible refine Kd.C_alloc ?_ _) | (with_reducible refine Kd.C_drewN ?_ _) | (with_reducible refine Kd.C_drew ?_))); (case side2 => exact HC0.out); rintro e w15 ⟨v134, rfl, ho0, hb⟩; refine ⟨_, rfl, ?_⟩; have n0_ := Aside0.mk (Kd.R_lower ho0 (below_size (by repeat (first | (with_reducible first | exact HB.out | apply below_alloc | apply pw_below_drewN | apply below_drew1) | exact HB.out)))); have n1_ := Aside0.mk (below_step (by repeat (first | (with_reducible first | exact HB.out | apply below_alloc | apply pw_below_drewN | apply below_drew1) | exact HB.out)) hb); clear HB; have HO135 := n0_; have HB := n1_; clear n0_ n1_; (try clear hb); (try clear hb2); (try clear hk); (try clear hi); (try clear ho0); have p136 : 0 ≤ (0 : Int) := (by omega); have q136 : 0 < (l0.length : Int) := of_decide_eq_true (by first | (with_reducible assumption) | assumption); obtain ⟨ad136, e136, hx136_0, hx136_1, hx136_2⟩ := at_T45 HR0.out 0 p136 q136; cases e136; have qi136 : (0 < l0.length) = True := eq_true (by omega); (try rw [show ((0 : Int)).toNat = 0 from rfl] at hx136_0); (try rw [show 0 * 3 = 0 from rfl] at hx136_0); (try rw [Addr.add_zero'] at hx136_0); (try rw [show ((0 : Int)).toNat = 0 from rfl] at hx136_1); (try rw [show 0 * 3 = 0 from rfl] at hx136_1); (try rw [Addr.add_zero'] at hx136_1); (try rw [show ((0 : Int)).toNat = 0 from rfl] at hx136_2); (try rw [show 0 * 3 = 0 from rfl] at hx136_2); (try rw [Addr.add_zero'] at hx136_2); replace hx136_0 := (HB.out.cell (World.block_lt_of_cell? w _ hx136_0)).trans hx136_0; replace hx136_1 := (HB.out.cell (World.block_lt_of_cell? w _ hx136_1)).trans hx136_1; replace hx136_2 := (HB.out.cell (World.block_lt_of_cell? w _ hx136_2)).trans hx136_2; replace p136 := eq_true p136; replace q136 := eq_true q136; have q16 : (1 : Int) ≤ ((l0.length : Int) : Int) := of_decide_eq_true (by first | (with_reducible assumption) | assumption); obtain ⟨i016, hi016, _, hsz16, _⟩ := info_parts info45; have hroom16 : l0.length ≤ c0 := HC0.out; have hC16 : Kd.C k45 _ (some ad136) l0.length l0 := HR0.out; have hcut16 := cut_from (P := Try.prog) 25 45 .i64 Try.underlying25 hi016 3 hsz16 (some ad136) l0.length c0 1 (by omega) q16; have hr16 := Kd.C_drop (m := (1 : Int).toNat) (c := c0) hC16 (by omega) hroom16; obtain ⟨A16, hA16⟩ : ∃ A1, A1 = (if c0 = (1 : Int).toNat then (some ad136) else ((some ad136) : Option Addr).map (·.add ((1 : Int).toNat * 3))) := ⟨_, rfl⟩; obtain ⟨c16, hc16⟩ : ∃ c1, c1 = c0 - (1 : Int).toNat := ⟨_, rfl⟩; have hy16 : y139.length = l0.length - (1 : Int).toNat := (by rw [Ny139.out, List.length_drop] <;> omega); rw [show (l0).drop (1 : Int).toNat = y139 from Ny139.out.symm] at hr16; replace hr16 : Kd.C k45 _ A16 y139.length y139 := (by rw [hA16]; exact hr16); rw [← hy16, ← hA16, ← hc16] at hcut16; have HR142 := Aside0.mk hr16; have HC142 := Aside0.mk (show y139.length ≤ c16 from by rw [hy16, hc16]; exact Nat.sub_le_sub_right hroom16 _); clear hr16 hC16 hroom16 hi016 hsz16 hc16; have KY16 := Aside0.mk hy16; have KA16 := Aside0.mk hA16; clear hy16 hA16; replace q16 := eq_true q16) | ((with_reducible refine gate_callee (f := 31) rfl ?_); refine goesL_ (some 30) rfl rfl Try.func31 (by kernel_rfl) rfl #[.slice A16 y139.length c16, .slice A1 l1.length c1] rfl (by (try simp only [List.map_toArray, List.map_cons, List.map_nil]); first | done | rfl | (simp only [List.length_drop, List.length_take]; rfl)) ?_; (with_reducible refine (ih k (by omega) _ _ y139 _ _ l1 t143 _ ?side1 ?side2 ?side3 ?side4 A14.out).mono ?_); (case side1 => repeat (first | exact (Kd.C_below HR142.out HB.out) | (with_reducible refine Kd.C_alloc ?_ _) | (with_reducible refine Kd.C_drewN ?_ _) | (with_reducible refine Kd.C_drew ?_))); (case side2 => exact HC142.out); (case side3 => repeat (first | exact (Kd.C_below HR1.out HB.out) | (with_reducible refine Kd.C_alloc ?_ _) | (with_reducible refine Kd.C_drewN ?_ _) | (with_reducible refine Kd.C_drew ?_))); (case side4 => exact HC1.out); rintro e w17 ⟨rfl, hb⟩; refine ⟨_, rfl, ?_⟩; have n0_ := Aside0.mk (Kd.R_below (by (with_reducible repeat (first | apply Kd.R_alloc | apply Kd.R_drewN | apply Kd.R_drew)); exact HO135.out) hb); have n1_ := Aside0.mk (below_step (by repeat (first | (with_reducible first | exact HB.out | apply below_alloc | apply pw_below_drewN | apply below_drew1) | exact HB.out)) hb); clear HO135; clear HB; have HO135 := n0_; have HB := n1_; clear n0_ n1_; (try clear hb); (try clear hb2); (try clear hk); (try clear hi)))
              go_ret
              exact ⟨by first | rfl | (simp [errW_none, errW_some] <;> rfl) | (simp [*, errW_none, errW_some] <;> rfl), by repeat (first | (with_reducible first | exact HB.out | apply below_alloc | apply pw_below_drewN | apply below_drew1) | exact HB.out)⟩
            · rw [if_neg c13] at H
              exact absurd H (by simp)
          · rw [if_neg c12] at H
            have c12b0 : (((rd_T45 l0 0).f0) == 4) = false := beq_eq_false_iff_ne.mpr c12
            have c12b1 : (((rd_T45 l0 0).f0) != 4) = true := bne_iff_ne.mpr c12
            have H' := Aside0.mk H
            clear H
            go_enter Try.func31, Try.ntmps31
            go_wp2_with (first | ((with_reducible refine gate_callee (f := 48) rfl ?_); refine goesL_ (some 8) rfl rfl Try.func48 (by kernel_rfl) rfl #[.slice A0 l0.length c0] rfl (by (try simp only [List.map_toArray, List.map_cons, List.map_nil]); first | done | rfl | (simp only [List.length_drop, List.length_take]; rfl)) ?_; (with_reducible refine (spec_l7Starts.calls k _ _ l0 t133 _ ?side1 ?side2 A3.out).mono ?_); (case side1 => repeat (first | exact HR0.out | (with_reducible refine Kd.C_alloc ?_ _) | (with_reducible refine Kd.C_drewN ?_ _) | (with_reducible refine Kd.C_drew ?_))); (case side2 => exact HC0.out); rintro e w18 ⟨v134, rfl, ho0, hb⟩; refine ⟨_, rfl, ?_⟩; have n0_ := Aside0.mk (Kd.R_lower ho0 (below_size (by repeat (first | (with_reducible first | exact HB.out | apply below_alloc | apply pw_below_drewN | apply below_drew1) | exact HB.out)))); have n1_ := Aside0.mk (below_step (by repeat (first | (with_reducible first | exact HB.out | apply below_alloc | apply pw_below_drewN | apply below_drew1) | exact HB.out)) hb); clear HB; have HO135 := n0_; have HB := n1_; clear n0_ n1_; (try clear hb); (try clear hb2); (try clear hk); (try clear hi); (try clear ho0); have p136 : 0 ≤ (0 : Int) := (by omega); have q136 : 0 < (l0.length : Int) := of_decide_eq_true (by first | (with_reducible assumption) | assumption); obtain ⟨ad136, e136, hx136_0, hx136_1, hx136_2⟩ := at_T45 HR0.out 0 p136 q136; cases e136; have qi136 : (0 < l0.length) = True := eq_true (by omega); (try rw [show ((0 : Int)).toNat = 0 from rfl] at hx136_0); (try rw [show 0 * 3 = 0 from rfl] at hx136_0); (try rw [Addr.add_zero'] at hx136_0); (try rw [show ((0 : Int)).toNat = 0 from rfl] at hx136_1); (try rw [show 0 * 3 = 0 from rfl] at hx136_1); (try rw [Addr.add_zero'] at hx136_1); (try rw [show ((0 : Int)).toNat = 0 from rfl] at hx136_2); (try rw [show 0 * 3 = 0 from rfl] at hx136_2); (try rw [Addr.add_zero'] at hx136_2); replace hx136_0 := (HB.out.cell (World.block_lt_of_cell? w _ hx136_0)).trans hx136_0; replace hx136_1 := (HB.out.cell (World.block_lt_of_cell? w _ hx136_1)).trans hx136_1; replace hx136_2 := (HB.out.cell (World.block_lt_of_cell? w _ hx136_2)).trans hx136_2; replace p136 := eq_true p136; replace q136 := eq_true q136))
            go_loopg [6] k (fun kq v6 w' => ∃ (x6_1 : Int), v6 = .int .i64 x6_1 ∧ Aside0 (spec_l7Holds.l0 kq l0 l1 t133 x6_1 = some r) ∧ Aside0 (kq ≤ k) ∧ Aside0 (Kd.R (Kd.int .i64) 3 w' w.heap.size (fun _ => True) v134 t133) ∧ Aside0 (Below w.heap.size w w'))
            case atStart => exact ⟨(0), (by first | rfl | (simp; done) | (simp [*]; done)), H', ⟨Nat.le_refl _⟩, ⟨by (with_reducible repeat (first | apply Kd.R_alloc | apply Kd.R_drewN | apply Kd.R_drew)); exact HO135.out⟩, ⟨by repeat (first | (with_reducible first | exact HB.out | apply below_alloc | apply pw_below_drewN | apply below_drew1) | exact HB.out)⟩⟩
            case round =>
              clear H'
              try clear c1
              try clear p1
              try clear q1
              try clear hx1
              try clear qi1
              try clear p2
              try clear c3
              try clear c4
              try clear c4b0
              try clear c4b1
              try clear c5
              try clear c5b0
              try clear c5b1
              try clear c8
              try clear c8b0
              try clear c8b1
              try clear c10
              try clear c10b0
              try clear c10b1
              try clear c12
              try clear c12b0
              try clear c12b1
              try clear c13
              try clear c13b0
              try clear c13b1
              try clear p13
              try clear q13
              try clear hx13
              try clear qi13
              try clear c16
              try clear q16
              try clear hx136_0
              try clear hx136_1
              try clear hx136_2
              try clear hx137_0
              try clear hx137_1
              try clear hx137_2
              try clear p136
              try clear p137
              try clear q136
              try clear q137
              try clear q16
              obtain ⟨x6_1, rfl, HA, HK1, HO_5, HB⟩ := hrel
              cases gk with
              | zero => exact absurd HA.out (by simp [spec_l7Holds.l0])
              | succ k1 =>
                have H := HA.out
                clear HA
                simp only [spec_l7Holds.l0] at H
                by_cases c19 : x6_1 < (t133.length : Int)
                · rw [if_pos c19] at H
                  have c19b0 : decide (x6_1 < (t133.length : Int)) = true := decide_eq_true c19
                  clear c19
                  by_cases c20 : 0 ≤ x6_1
                  · rw [if_pos c20] at H
                    have c20b0 : decide (0 ≤ x6_1) = true := decide_eq_true c20
                    clear c20
                    by_cases c21 : 0 ≤ (rd t133 x6_1)
                    · rw [if_pos c21] at H
                      have c21b0 := eq_true c21
                      have c21b1 : decide (0 ≤ (rd t133 x6_1)) = true := decide_eq_true c21
                      clear c21
                      by_cases c22 : (rd t133 x6_1) ≤ (hi44 l0 (rd t133 x6_1))
                      · rw [if_pos c22] at H
                        have c22b0 := eq_true c22
                        have c22b1 : decide ((rd t133 x6_1) ≤ (hi44 l0 (rd t133 x6_1))) = true := decide_eq_true c22
                        clear c22
                        by_cases c23 : (hi44 l0 (rd t133 x6_1)) ≤ (l0.length : Int) ∧ (rd t133 x6_1) < (l0.length : Int)
                        · rw [if_pos c23] at H
                          have HLT_ := Aside0.mk c23.2
                          replace c23 := c23.1
                          have c23b0 := eq_true c23
                          have c23b1 : decide ((hi44 l0 (rd t133 x6_1)) ≤ (l0.length : Int)) = true := decide_eq_true c23
                          clear c23
                          obtain ⟨y145, hy145⟩ : ∃ y_ : List (S45), y_ = ((l0.take ((hi44 l0 (rd t133 x6_1)) : Int).toNat).drop ((rd t133 x6_1) : Int).toNat) := ⟨_, rfl⟩
                          replace H : ((spec_l7Holds.f k1 y145 l1).bind fun t149 => (if 0 < (l0.length : Int) then (if (t149 != (((rd_T45 l0 0).f0) == 5)) = true then (some (((rd_T45 l0 0).f0) == 6)) else (spec_l7Holds.l0 k1 l0 l1 t133 (wrap64 (x6_1 + 1)))) else (none))) = some r := by first | (rw [hy145]; with_reducible exact H) | (have H2_ := (Option.bind_some _ _).symm.trans H; rw [hy145]; with_reducible exact H2_) | (have H2_ := (Option.bind_some _ _).symm.trans H; with_reducible exact H2_) | with_reducible exact H | (rw [hy145]; exact H) | exact H
                          have Ny145 := Aside0.mk hy145
                          clear hy145
                          replace H := Option.bind_eq_some_iff.mp H
                          obtain ⟨t149, A240, H⟩ := H
                          replace H : (if 0 < (l0.length : Int) then (if (t149 != (((rd_T45 l0 0).f0) == 5)) = true then (some (((rd_T45 l0 0).f0) == 6)) else (spec_l7Holds.l0 k1 l0 l1 t133 (wrap64 (x6_1 + 1)))) else (none)) = some r := H
                          have A24 := Aside0.mk A240
                          clear A240
                          by_cases c25 : 0 < (l0.length : Int)
                          · rw [if_pos c25] at H
                            have c25b0 : decide (0 < (l0.length : Int)) = true := decide_eq_true c25
                            have c25b1 : decide (0 < l0.length) = true := decide_eq_true (by omega)
                            clear c25
                            by_cases c26 : (t149 != (((rd_T45 l0 0).f0) == 5)) = true
                            · rw [if_pos c26] at H
                              have c26b0 : (t149 != (((rd_T45 l0 0).f0) == 5)) = true := c26
                              (try (have c26b1 : decide (t149 = (((rd_T45 l0 0).f0) == 5)) = false := by simpa using c26))
                              (try (have c26b2 : (t149 == (((rd_T45 l0 0).f0) == 5)) = false := by simpa using c26))
                              (try (have c26b3 : ¬ (t149 = (((rd_T45 l0 0).f0) == 5)) := by simpa using c26))
                              clear c26
                              obtain rfl := Option.some.inj H
                              obtain ⟨Ao27, co27, eo27⟩ := Kd.R_slice HO_5.out
                              subst eo27
                              try go_wp2
                              have n0_ := Aside0.mk (Kd.R_drew HO_5.out)
                              have n1_ := Aside0.mk (below_drew1 HB.out)
                              clear HO_5
                              clear HB
                              have HO_5 := n0_
                              have HB := n1_
                              clear n0_ n1_
                              have p144 : 0 ≤ (x6_1 : Int) := of_decide_eq_true (by first | (with_reducible assumption) | assumption)
                              have q144 : x6_1 < (t133.length : Int) := of_decide_eq_true (by first | (with_reducible assumption) | assumption)
                              obtain ⟨ad144, e144, hx144_0⟩ := Kd.at_int (Kd.R_reads' HO_5.out).2.2 x6_1 p144 q144
                              cases e144
                              replace p144 := eq_true p144
                              replace q144 := eq_true q144
                              have q29 : ((hi44 l0 (rd t133 x6_1)) : Int) ≤ ((l0.length : Int) : Int) := of_decide_eq_true (by first | (with_reducible assumption) | assumption)
                              obtain ⟨i029, hi029, _, hsz29, _⟩ := info_parts info45
                              have hroom29 : l0.length ≤ c0 := HC0.out
                              have hC29 : Kd.C k45 _ (some ad136) l0.length l0 := HR0.out
                              have ql29 : ((rd t133 x6_1) : Int) ≤ ((hi44 l0 (rd t133 x6_1)) : Int) := of_decide_eq_true (by first | (with_reducible assumption) | assumption)
                              have q029 : (0 : Int) ≤ ((rd t133 x6_1) : Int) := of_decide_eq_true (by first | (with_reducible assumption) | assumption)
                              have hr29 := Kd.C_mid (lo := ((rd t133 x6_1) : Int).toNat) (hi := ((hi44 l0 (rd t133 x6_1)) : Int).toNat) (c := c0) hC29 (by omega) (by omega) hroom29
                              obtain ⟨A29, hA29⟩ : ∃ A1, A1 = (if c0 = ((rd t133 x6_1) : Int).toNat then (some ad136) else ((some ad136) : Option Addr).map (·.add (((rd t133 x6_1) : Int).toNat * 3))) := ⟨_, rfl⟩
                              obtain ⟨c29, hc29⟩ : ∃ c1, c1 = c0 - ((rd t133 x6_1) : Int).toNat := ⟨_, rfl⟩
                              have hy29 : y145.length = ((hi44 l0 (rd t133 x6_1)) : Int).toNat - ((rd t133 x6_1) : Int).toNat := (by rw [Ny145.out, List.length_drop, List.length_take] <;> omega)
                              rw [show ((l0).take ((hi44 l0 (rd t133 x6_1)) : Int).toNat).drop ((rd t133 x6_1) : Int).toNat = y145 from Ny145.out.symm] at hr29
                              replace hr29 : Kd.C k45 _ A29 y145.length y145 := (by rw [hA29]; exact hr29)
                              have KQ29 := Aside0.mk q29; have KL29 := Aside0.mk ql29; have K029 := Aside0.mk q029; have KC29 := Aside0.mk hc29; clear ql29 q029
                              have HR148 := Aside0.mk hr29
                              have HC148 := Aside0.mk (show y145.length ≤ c29 from by rw [hy29, hc29]; exact Nat.sub_le_sub_right (Nat.le_trans (by omega) hroom29) _)
                              clear hr29 hC29 hroom29 hi029 hsz29 hc29
                              have KY29 := Aside0.mk hy29
                              have KA29 := Aside0.mk hA29
                              clear hy29 hA29
                              replace q29 := eq_true q29
                              have p150 : 0 ≤ (0 : Int) := (by omega)
                              have q150 : 0 < (l0.length : Int) := of_decide_eq_true (by first | (with_reducible assumption) | assumption)
                              obtain ⟨ad150, e150, hx150_0, hx150_1, hx150_2⟩ := at_T45 HR0.out 0 p150 q150
                              have hw150_2 := hx150_2
                              (try rw [show ((0 : Int)).toNat = 0 from rfl] at hw150_2)
                              (try rw [show 0 * 3 = 0 from rfl] at hw150_2)
                              (try rw [Addr.add_zero'] at hw150_2)
                              have hw150_1 := hx150_1
                              (try rw [show ((0 : Int)).toNat = 0 from rfl] at hw150_1)
                              (try rw [show 0 * 3 = 0 from rfl] at hw150_1)
                              (try rw [Addr.add_zero'] at hw150_1)
                              have hw150_0 := hx150_0
                              (try rw [show ((0 : Int)).toNat = 0 from rfl] at hw150_0)
                              (try rw [show 0 * 3 = 0 from rfl] at hw150_0)
                              (try rw [Addr.add_zero'] at hw150_0)
                              obtain rfl : ad136 = ad150 := (by injection e150)
                              have qi150 : (0 < l0.length) = True := eq_true (by omega)
                              (try rw [show ((0 : Int)).toNat = 0 from rfl] at hx150_0)
                              (try rw [show 0 * 3 = 0 from rfl] at hx150_0)
                              (try rw [Addr.add_zero'] at hx150_0)
                              (try rw [show ((0 : Int)).toNat = 0 from rfl] at hx150_1)
                              (try rw [show 0 * 3 = 0 from rfl] at hx150_1)
                              (try rw [Addr.add_zero'] at hx150_1)
                              (try rw [show ((0 : Int)).toNat = 0 from rfl] at hx150_2)
                              (try rw [show 0 * 3 = 0 from rfl] at hx150_2)
                              (try rw [Addr.add_zero'] at hx150_2)
                              try (replace hx150_0 := (HB.out.cell (World.block_lt_of_cell? w _ hx150_0)).trans hx150_0)
                              try (replace hx150_1 := (HB.out.cell (World.block_lt_of_cell? w _ hx150_1)).trans hx150_1)
                              try (replace hx150_2 := (HB.out.cell (World.block_lt_of_cell? w _ hx150_2)).trans hx150_2)
                              replace p150 := eq_true p150
                              replace q150 := eq_true q150
                              refine start_ (n := 14) (S := fun w' => w'.cell? (ad144.add (x6_1).toNat) = some (.int .i64 (rd t133 x6_1)) ∧ w'.cell? ad136 = some (.int .i64 ((rd_T45 l0 0).f0)) ∧ w'.cell? ⟨ad136.block, ad136.off + 1, none⟩ = some (.string ((rd_T45 l0 0).f1)) ∧ w'.cell? ⟨ad136.block, ad136.off + 2, none⟩ = some (.int .i64 ((rd_T45 l0 0).f2))) (ds := []) #[false, false, false, false, false, false, false, false, false, false, false, false, false, false] (by kernel_rfl) rfl rfl ⟨hx144_0, ((HB.out.cell (World.block_lt_of_cell? w _ hw150_0)).trans hw150_0), ((HB.out.cell (World.block_lt_of_cell? w _ hw150_1)).trans hw150_1), ((HB.out.cell (World.block_lt_of_cell? w _ hw150_2)).trans hw150_2)⟩ (fun hHeld => ?_); refine with_tabW spec_l7Holds.tab14 spec_l7Holds.bits14 (fun HT_ HW_ => ?_)
                              generalize wr.drew = w28 at HO_5 HB HR148 hx144_0 hx150_0 hx150_1 hx150_2 hHeld ⊢
                              refine pure_ (i := 0) (N := some 38) (v := ?_) (a' := ?_) #[true, false, false, false, false, false, false, false, false, false, false, false, false, false] rfl rfl (any_of HT_.out (by kernel_rfl)) (fun _ _ _ h => h) (Or.inl ⟨by rfl, ?_⟩) ?_ ?_
                              rotate_left
                              · intro w'
                                go_simp
                                with_reducible rfl
                              rotate_left
                              · simp only [Act.put, List.setIfInBounds_toArray, List.set_cons_zero, List.set_cons_succ, i64_w, i32_w]
                                rfl
                              refine pure_ (i := 1) (N := some 39) (v := ?_) (a' := ?_) #[true, true, false, false, false, false, false, false, false, false, false, false, false, false] rfl rfl (any_of HT_.out (by kernel_rfl)) (fun _ _ _ h => h) (Or.inl ⟨by rfl, ?_⟩) ?_ ?_
                              rotate_left
                              · intro w'
                                go_simp
                                with_reducible rfl
                              rotate_left
                              · simp only [Act.put, List.setIfInBounds_toArray, List.set_cons_zero, List.set_cons_succ, i64_w, i32_w]
                                rfl
                              refine pure_ (i := 2) (N := some 40) (v := ?_) (a' := ?_) #[true, true, true, false, false, false, false, false, false, false, false, false, false, false] rfl rfl (any_of HT_.out (by kernel_rfl)) (fun _ _ _ h => h) (Or.inl ⟨by rfl, ?_⟩) ?_ ?_
                              rotate_left
                              · intro w'
                                go_simp
                                with_reducible rfl
                              rotate_left
                              · simp only [Act.put, List.setIfInBounds_toArray, List.set_cons_zero, List.set_cons_succ, i64_w, i32_w]
                                rfl
                              refine pure_ (i := 3) (N := some 41) (v := ?_) (a' := ?_) #[true, true, true, true, false, false, false, false, false, false, false, false, false, false] rfl rfl (any_of HT_.out (by kernel_rfl)) (fun _ _ _ h => h) (Or.inl ⟨by rfl, ?_⟩) ?_ ?_
                              rotate_left
                              · intro w'
                                go_simp
                                with_reducible rfl
                              rotate_left
                              · simp only [Act.put, List.setIfInBounds_toArray, List.set_cons_zero, List.set_cons_succ, i64_w, i32_w]
                                rfl
                              refine pure_ (i := 6) (N := some 44) (v := ?_) (a' := ?_) #[true, true, true, true, false, false, true, false, false, false, false, false, false, false] rfl rfl (any_of HT_.out (by kernel_rfl)) (fun _ _ _ h => h) (Or.inl ⟨by rfl, ?_⟩) ?_ ?_
                              rotate_left
                              · intro w'
                                go_simp
                                with_reducible rfl
                              rotate_left
                              · simp only [Act.put, List.setIfInBounds_toArray, List.set_cons_zero, List.set_cons_succ, i64_w, i32_w]
                                rfl
                              refine pure_ (i := 8) (N := some 46) (v := ?_) (a' := ?_) #[true, true, true, true, false, false, true, false, true, false, false, false, false, false] rfl rfl (any_of HT_.out (by kernel_rfl)) (fun _ _ _ h => h) (Or.inl ⟨by rfl, ?_⟩) ?_ ?_
                              rotate_left
                              · intro w'
                                go_simp
                                with_reducible rfl
                              rotate_left
                              · simp only [Act.put, List.setIfInBounds_toArray, List.set_cons_zero, List.set_cons_succ, i64_w, i32_w]
                                rfl
                              refine pure_ (i := 9) (N := some 47) (v := ?_) (a' := ?_) #[true, true, true, true, false, false, true, false, true, true, false, false, false, false] rfl rfl (any_of HT_.out (by kernel_rfl)) (fun _ _ _ h => h) (Or.inl ⟨by rfl, ?_⟩) ?_ ?_
                              rotate_left
                              · intro w'
                                go_simp
                                with_reducible rfl
                              rotate_left
                              · simp only [Act.put, List.setIfInBounds_toArray, List.set_cons_zero, List.set_cons_succ, i64_w, i32_w]
                                rfl
                              refine pure_ (i := 10) (N := some 48) (v := ?_) (a' := ?_) #[true, true, true, true, false, false, true, false, true, true, true, false, false, false] rfl rfl (any_of HT_.out (by kernel_rfl)) (fun _ _ _ h => h) (Or.inl ⟨by rfl, ?_⟩) ?_ ?_
                              rotate_left
                              · intro w'
                                go_simp
                                with_reducible rfl
                              rotate_left
                              · simp only [Act.put, List.setIfInBounds_toArray, List.set_cons_zero, List.set_cons_succ, i64_w, i32_w]
                                rfl
                              refine take_ (i := 4) (N := some 42) (v := ?_) (a' := ?_) #[true, true, true, true, true, false, true, false, true, true, true, false, false, false] rfl rfl (take_ofW HT_.out HW_.out (by kernel_rfl)) (fun _ _ _ h => h) (Or.inl ⟨by rfl, ?_⟩) hHeld ?_ ?_
                              rotate_left
                              · rintro w' ⟨s0, s1, s2, s3⟩
                                go_simp
                                with_reducible rfl
                              rotate_left
                              · simp only [Act.put, List.setIfInBounds_toArray, List.set_cons_zero, List.set_cons_succ, i64_w, i32_w]
                                rfl
                              refine take_ (i := 11) (N := some 49) (v := ?_) (a' := ?_) #[true, true, true, true, true, false, true, false, true, true, true, true, false, false] rfl rfl (take_ofW HT_.out HW_.out (by kernel_rfl)) (fun _ _ _ h => h) (Or.inl ⟨by rfl, ?_⟩) hHeld ?_ ?_
                              rotate_left
                              · rintro w' ⟨s0, s1, s2, s3⟩
                                go_simp
                                with_reducible rfl
                              rotate_left
                              · simp only [Act.put, List.setIfInBounds_toArray, List.set_cons_zero, List.set_cons_succ, i64_w, i32_w]
                                rfl
                              refine pure_ (i := 12) (N := some 50) (v := ?_) (a' := ?_) #[true, true, true, true, true, false, true, false, true, true, true, true, true, false] rfl rfl (any_of HT_.out (by kernel_rfl)) (fun _ _ _ h => h) (Or.inl ⟨by rfl, ?_⟩) ?_ ?_
                              rotate_left
                              · intro w'
                                go_simp
                                with_reducible rfl
                              rotate_left
                              · simp only [Act.put, List.setIfInBounds_toArray, List.set_cons_zero, List.set_cons_succ, i64_w, i32_w]
                                rfl
                              refine one_ (i := 5) (N := some 43) #[true, true, true, true, true, true, true, false, true, true, true, true, true, false] rfl rfl (one_of HT_.out (by kernel_rfl)) (by decide) (fun K hK => ?_)
                              refine goes_ Try.func44 (by kernel_rfl) rfl #[.slice (some ad136) l0.length c0, .int .i64 (rd t133 x6_1)] (by rfl) rfl rfl (by (try simp only [List.map_toArray, List.map_cons, List.map_nil]); first | done | rfl) ?_
                              with_reducible refine (spec_l7Part.calls _ _ l0 (rd t133 x6_1) _ A29 c29 y145 ?zr ?zc K029.out HLT_.out KL29.out KQ29.out KA29.out KY29.out KC29.out).mono ?_
                              (case zr => repeat (first | exact (Kd.C_below HR0.out HB.out) | (with_reducible refine Kd.C_alloc ?_ _) | (with_reducible refine Kd.C_drewN ?_ _) | (with_reducible refine Kd.C_drew ?_)))
                              (case zc => exact HC0.out)
                              rintro e w30b ⟨rfl, hd_⟩; have hb := below_of hd_; clear hd_
                              have HS0_ := (hb.cell (World.block_lt_of_cell? _ _ (hHeld.1))).trans (hHeld.1)
                              refine ⟨_, rfl, ?_⟩
                              have n0_ := Aside0.mk (Kd.R_below (by (with_reducible repeat (first | apply Kd.R_alloc | apply Kd.R_drewN | apply Kd.R_drew)); exact HO_5.out) hb)
                              have n1_ := Aside0.mk (below_step (by repeat (first | (with_reducible first | exact HB.out | apply below_alloc | apply pw_below_drewN | apply below_drew1) | exact HB.out)) hb)
                              clear HO_5
                              clear HB
                              have HO_5 := n0_
                              have HB := n1_
                              clear n0_ n1_
                              (try clear hb)
                              (try clear hb2)
                              (try clear hk)
                              (try clear hi)
                              refine hK.out _ _ ⟨HS0_, ((HB.out.cell (World.block_lt_of_cell? w _ hw150_0)).trans hw150_0), ((HB.out.cell (World.block_lt_of_cell? w _ hw150_1)).trans hw150_1), ((HB.out.cell (World.block_lt_of_cell? w _ hw150_2)).trans hw150_2)⟩ (fun hHeld => ?_)
                              clear hK K
                              refine norm_ (a' := ?_) ?_ ?_
                              rotate_left
                              · show Act.put _ (some 43) _ = _
                                simp only [Act.put, List.setIfInBounds_toArray, List.set_cons_zero, List.set_cons_succ, i64_w, i32_w]
                                rfl
                              refine one_ (i := 7) (N := some 45) #[true, true, true, true, true, true, true, true, true, true, true, true, true, false] rfl rfl (one_of HT_.out (by kernel_rfl)) (by decide) (fun K hK => ?_)
                              refine goes_ Try.func31 (by kernel_rfl) rfl #[.slice A29 y145.length c29, .slice A1 l1.length c1] (by rfl) rfl rfl (by (try simp only [List.map_toArray, List.map_cons, List.map_nil]); first | done | rfl | (simp only [List.length_drop, List.length_take]; rfl)) ?_
                              with_reducible refine (ih k1 (by have := HK1.out; omega) _ _ y145 _ _ l1 t149 _ ?side1 ?side2 ?side3 ?side4 A24.out).mono ?_
                              (case side1 => repeat (first | exact (Kd.C_below HR148.out HB.out) | (with_reducible refine Kd.C_alloc ?_ _) | (with_reducible refine Kd.C_drewN ?_ _) | (with_reducible refine Kd.C_drew ?_)))
                              (case side2 => exact HC148.out)
                              (case side3 => repeat (first | exact (Kd.C_below HR1.out HB.out) | (with_reducible refine Kd.C_alloc ?_ _) | (with_reducible refine Kd.C_drewN ?_ _) | (with_reducible refine Kd.C_drew ?_)))
                              (case side4 => exact HC1.out)
                              rintro e w30 ⟨rfl, hb⟩
                              have HS0_ := (hb.cell (World.block_lt_of_cell? _ _ (hHeld.1))).trans (hHeld.1)
                              refine ⟨_, rfl, ?_⟩
                              have n0_ := Aside0.mk (Kd.R_below (by (with_reducible repeat (first | apply Kd.R_alloc | apply Kd.R_drewN | apply Kd.R_drew)); exact HO_5.out) hb)
                              have n1_ := Aside0.mk (below_step (by repeat (first | (with_reducible first | exact HB.out | apply below_alloc | apply pw_below_drewN | apply below_drew1) | exact HB.out)) hb)
                              clear HO_5
                              clear HB
                              have HO_5 := n0_
                              have HB := n1_
                              clear n0_ n1_
                              (try clear hb)
                              (try clear hb2)
                              (try clear hk)
                              (try clear hi)
                              refine hK.out _ _ ⟨HS0_, ((HB.out.cell (World.block_lt_of_cell? w _ hw150_0)).trans hw150_0), ((HB.out.cell (World.block_lt_of_cell? w _ hw150_1)).trans hw150_1), ((HB.out.cell (World.block_lt_of_cell? w _ hw150_2)).trans hw150_2)⟩ (fun hHeld => ?_)
                              clear hK K
                              refine norm_ (a' := ?_) ?_ ?_
                              rotate_left
                              · show Act.put _ (some 45) _ = _
                                simp only [Act.put, List.setIfInBounds_toArray, List.set_cons_zero, List.set_cons_succ, i64_w, i32_w]
                                rfl
                              refine pure_ (i := 13) (N := some 51) (v := ?_) (a' := ?_) #[true, true, true, true, true, true, true, true, true, true, true, true, true, true] rfl rfl (any_of HT_.out (by kernel_rfl)) (fun _ _ _ h => h) (Or.inl ⟨by rfl, ?_⟩) ?_ ?_
                              rotate_left
                              · intro w'
                                go_simp
                                with_reducible rfl
                              rotate_left
                              · simp only [Act.put, List.setIfInBounds_toArray, List.set_cons_zero, List.set_cons_succ, i64_w, i32_w]
                                rfl
                              refine done_ (done_of HT_.out (by kernel_rfl)) ?_
                              have p151 : 0 ≤ (0 : Int) := (by omega)
                              have q151 : 0 < (l0.length : Int) := of_decide_eq_true (by first | (with_reducible assumption) | assumption)
                              obtain ⟨ad151, e151, hx151_0, hx151_1, hx151_2⟩ := at_T45 HR0.out 0 p151 q151
                              obtain rfl : ad136 = ad151 := (by injection e151)
                              have qi151 : (0 < l0.length) = True := eq_true (by omega)
                              (try rw [show ((0 : Int)).toNat = 0 from rfl] at hx151_0)
                              (try rw [show 0 * 3 = 0 from rfl] at hx151_0)
                              (try rw [Addr.add_zero'] at hx151_0)
                              (try rw [show ((0 : Int)).toNat = 0 from rfl] at hx151_1)
                              (try rw [show 0 * 3 = 0 from rfl] at hx151_1)
                              (try rw [Addr.add_zero'] at hx151_1)
                              (try rw [show ((0 : Int)).toNat = 0 from rfl] at hx151_2)
                              (try rw [show 0 * 3 = 0 from rfl] at hx151_2)
                              (try rw [Addr.add_zero'] at hx151_2)
                              try (replace hx151_0 := (HB.out.cell (World.block_lt_of_cell? w _ hx151_0)).trans hx151_0)
                              try (replace hx151_1 := (HB.out.cell (World.block_lt_of_cell? w _ hx151_1)).trans hx151_1)
                              try (replace hx151_2 := (HB.out.cell (World.block_lt_of_cell? w _ hx151_2)).trans hx151_2)
                              replace p151 := eq_true p151
                              replace q151 := eq_true q151
                              try go_wp2
                              go_ret
                              exact ⟨by first | rfl | (simp [errW_none, errW_some] <;> rfl) | (simp [*, errW_none, errW_some] <;> rfl), by repeat (first | (with_reducible first | exact HB.out | apply below_alloc | apply pw_below_drewN | apply below_drew1) | exact HB.out)⟩
                            · rw [if_neg c26] at H
                              have c26b0 : (t149 != (((rd_T45 l0 0).f0) == 5)) = false := by simpa using c26
                              (try (have c26b1 : decide (t149 = (((rd_T45 l0 0).f0) == 5)) = true := by simpa using c26))
                              (try (have c26b2 : (t149 == (((rd_T45 l0 0).f0) == 5)) = true := by simpa using c26))
                              clear c26
                              have H' := Aside0.mk H
                              clear H
                              obtain ⟨Ao31, co31, eo31⟩ := Kd.R_slice HO_5.out
                              subst eo31
                              try go_wp2
                              have n0_ := Aside0.mk (Kd.R_drew HO_5.out)
                              have n1_ := Aside0.mk (below_drew1 HB.out)
                              clear HO_5
                              clear HB
                              have HO_5 := n0_
                              have HB := n1_
                              clear n0_ n1_
                              have p144 : 0 ≤ (x6_1 : Int) := of_decide_eq_true (by first | (with_reducible assumption) | assumption)
                              have q144 : x6_1 < (t133.length : Int) := of_decide_eq_true (by first | (with_reducible assumption) | assumption)
                              obtain ⟨ad144, e144, hx144_0⟩ := Kd.at_int (Kd.R_reads' HO_5.out).2.2 x6_1 p144 q144
                              cases e144
                              replace p144 := eq_true p144
                              replace q144 := eq_true q144
                              have q33 : ((hi44 l0 (rd t133 x6_1)) : Int) ≤ ((l0.length : Int) : Int) := of_decide_eq_true (by first | (with_reducible assumption) | assumption)
                              obtain ⟨i033, hi033, _, hsz33, _⟩ := info_parts info45
                              have hroom33 : l0.length ≤ c0 := HC0.out
                              have hC33 : Kd.C k45 _ (some ad136) l0.length l0 := HR0.out
                              have ql33 : ((rd t133 x6_1) : Int) ≤ ((hi44 l0 (rd t133 x6_1)) : Int) := of_decide_eq_true (by first | (with_reducible assumption) | assumption)
                              have q033 : (0 : Int) ≤ ((rd t133 x6_1) : Int) := of_decide_eq_true (by first | (with_reducible assumption) | assumption)
                              have hr33 := Kd.C_mid (lo := ((rd t133 x6_1) : Int).toNat) (hi := ((hi44 l0 (rd t133 x6_1)) : Int).toNat) (c := c0) hC33 (by omega) (by omega) hroom33
                              obtain ⟨A33, hA33⟩ : ∃ A1, A1 = (if c0 = ((rd t133 x6_1) : Int).toNat then (some ad136) else ((some ad136) : Option Addr).map (·.add (((rd t133 x6_1) : Int).toNat * 3))) := ⟨_, rfl⟩
                              obtain ⟨c33, hc33⟩ : ∃ c1, c1 = c0 - ((rd t133 x6_1) : Int).toNat := ⟨_, rfl⟩
                              have hy33 : y145.length = ((hi44 l0 (rd t133 x6_1)) : Int).toNat - ((rd t133 x6_1) : Int).toNat := (by rw [Ny145.out, List.length_drop, List.length_take] <;> omega)
                              rw [show ((l0).take ((hi44 l0 (rd t133 x6_1)) : Int).toNat).drop ((rd t133 x6_1) : Int).toNat = y145 from Ny145.out.symm] at hr33
                              replace hr33 : Kd.C k45 _ A33 y145.length y145 := (by rw [hA33]; exact hr33)
                              have KQ33 := Aside0.mk q33; have KL33 := Aside0.mk ql33; have K033 := Aside0.mk q033; have KC33 := Aside0.mk hc33; clear ql33 q033
                              have HR148 := Aside0.mk hr33
                              have HC148 := Aside0.mk (show y145.length ≤ c33 from by rw [hy33, hc33]; exact Nat.sub_le_sub_right (Nat.le_trans (by omega) hroom33) _)
                              clear hr33 hC33 hroom33 hi033 hsz33 hc33
                              have KY33 := Aside0.mk hy33
                              have KA33 := Aside0.mk hA33
                              clear hy33 hA33
                              replace q33 := eq_true q33
                              have p150 : 0 ≤ (0 : Int) := (by omega)
                              have q150 : 0 < (l0.length : Int) := of_decide_eq_true (by first | (with_reducible assumption) | assumption)
                              obtain ⟨ad150, e150, hx150_0, hx150_1, hx150_2⟩ := at_T45 HR0.out 0 p150 q150
                              have hw150_2 := hx150_2
                              (try rw [show ((0 : Int)).toNat = 0 from rfl] at hw150_2)
                              (try rw [show 0 * 3 = 0 from rfl] at hw150_2)
                              (try rw [Addr.add_zero'] at hw150_2)
                              have hw150_1 := hx150_1
                              (try rw [show ((0 : Int)).toNat = 0 from rfl] at hw150_1)
                              (try rw [show 0 * 3 = 0 from rfl] at hw150_1)
                              (try rw [Addr.add_zero'] at hw150_1)
                              have hw150_0 := hx150_0
                              (try rw [show ((0 : Int)).toNat = 0 from rfl] at hw150_0)
                              (try rw [show 0 * 3 = 0 from rfl] at hw150_0)
                              (try rw [Addr.add_zero'] at hw150_0)
                              obtain rfl : ad136 = ad150 := (by injection e150)
                              have qi150 : (0 < l0.length) = True := eq_true (by omega)
                              (try rw [show ((0 : Int)).toNat = 0 from rfl] at hx150_0)
                              (try rw [show 0 * 3 = 0 from rfl] at hx150_0)
                              (try rw [Addr.add_zero'] at hx150_0)
                              (try rw [show ((0 : Int)).toNat = 0 from rfl] at hx150_1)
                              (try rw [show 0 * 3 = 0 from rfl] at hx150_1)
                              (try rw [Addr.add_zero'] at hx150_1)
                              (try rw [show ((0 : Int)).toNat = 0 from rfl] at hx150_2)
                              (try rw [show 0 * 3 = 0 from rfl] at hx150_2)
                              (try rw [Addr.add_zero'] at hx150_2)
                              try (replace hx150_0 := (HB.out.cell (World.block_lt_of_cell? w _ hx150_0)).trans hx150_0)
                              try (replace hx150_1 := (HB.out.cell (World.block_lt_of_cell? w _ hx150_1)).trans hx150_1)
                              try (replace hx150_2 := (HB.out.cell (World.block_lt_of_cell? w _ hx150_2)).trans hx150_2)
                              replace p150 := eq_true p150
                              replace q150 := eq_true q150
                              refine start_ (n := 14) (S := fun w' => w'.cell? (ad144.add (x6_1).toNat) = some (.int .i64 (rd t133 x6_1)) ∧ w'.cell? ad136 = some (.int .i64 ((rd_T45 l0 0).f0)) ∧ w'.cell? ⟨ad136.block, ad136.off + 1, none⟩ = some (.string ((rd_T45 l0 0).f1)) ∧ w'.cell? ⟨ad136.block, ad136.off + 2, none⟩ = some (.int .i64 ((rd_T45 l0 0).f2))) (ds := []) #[false, false, false, false, false, false, false, false, false, false, false, false, false, false] (by kernel_rfl) rfl rfl ⟨hx144_0, ((HB.out.cell (World.block_lt_of_cell? w _ hw150_0)).trans hw150_0), ((HB.out.cell (World.block_lt_of_cell? w _ hw150_1)).trans hw150_1), ((HB.out.cell (World.block_lt_of_cell? w _ hw150_2)).trans hw150_2)⟩ (fun hHeld => ?_); refine with_tabW spec_l7Holds.tab14 spec_l7Holds.bits14 (fun HT_ HW_ => ?_)
                              generalize wr.drew = w32 at HO_5 HB HR148 hx144_0 hx150_0 hx150_1 hx150_2 hHeld ⊢
                              refine pure_ (i := 0) (N := some 38) (v := ?_) (a' := ?_) #[true, false, false, false, false, false, false, false, false, false, false, false, false, false] rfl rfl (any_of HT_.out (by kernel_rfl)) (fun _ _ _ h => h) (Or.inl ⟨by rfl, ?_⟩) ?_ ?_
                              rotate_left
                              · intro w'
                                go_simp
                                with_reducible rfl
                              rotate_left
                              · simp only [Act.put, List.setIfInBounds_toArray, List.set_cons_zero, List.set_cons_succ, i64_w, i32_w]
                                rfl
                              refine pure_ (i := 1) (N := some 39) (v := ?_) (a' := ?_) #[true, true, false, false, false, false, false, false, false, false, false, false, false, false] rfl rfl (any_of HT_.out (by kernel_rfl)) (fun _ _ _ h => h) (Or.inl ⟨by rfl, ?_⟩) ?_ ?_
                              rotate_left
                              · intro w'
                                go_simp
                                with_reducible rfl
                              rotate_left
                              · simp only [Act.put, List.setIfInBounds_toArray, List.set_cons_zero, List.set_cons_succ, i64_w, i32_w]
                                rfl
                              refine pure_ (i := 2) (N := some 40) (v := ?_) (a' := ?_) #[true, true, true, false, false, false, false, false, false, false, false, false, false, false] rfl rfl (any_of HT_.out (by kernel_rfl)) (fun _ _ _ h => h) (Or.inl ⟨by rfl, ?_⟩) ?_ ?_
                              rotate_left
                              · intro w'
                                go_simp
                                with_reducible rfl
                              rotate_left
                              · simp only [Act.put, List.setIfInBounds_toArray, List.set_cons_zero, List.set_cons_succ, i64_w, i32_w]
                                rfl
                              refine pure_ (i := 3) (N := some 41) (v := ?_) (a' := ?_) #[true, true, true, true, false, false, false, false, false, false, false, false, false, false] rfl rfl (any_of HT_.out (by kernel_rfl)) (fun _ _ _ h => h) (Or.inl ⟨by rfl, ?_⟩) ?_ ?_
                              rotate_left
                              · intro w'
                                go_simp
                                with_reducible rfl
                              rotate_left
                              · simp only [Act.put, List.setIfInBounds_toArray, List.set_cons_zero, List.set_cons_succ, i64_w, i32_w]
                                rfl
                              refine pure_ (i := 6) (N := some 44) (v := ?_) (a' := ?_) #[true, true, true, true, false, false, true, false, false, false, false, false, false, false] rfl rfl (any_of HT_.out (by kernel_rfl)) (fun _ _ _ h => h) (Or.inl ⟨by rfl, ?_⟩) ?_ ?_
                              rotate_left
                              · intro w'
                                go_simp
                                with_reducible rfl
                              rotate_left
                              · simp only [Act.put, List.setIfInBounds_toArray, List.set_cons_zero, List.set_cons_succ, i64_w, i32_w]
                                rfl
                              refine pure_ (i := 8) (N := some 46) (v := ?_) (a' := ?_) #[true, true, true, true, false, false, true, false, true, false, false, false, false, false] rfl rfl (any_of HT_.out (by kernel_rfl)) (fun _ _ _ h => h) (Or.inl ⟨by rfl, ?_⟩) ?_ ?_
                              rotate_left
                              · intro w'
                                go_simp
                                with_reducible rfl
                              rotate_left
                              · simp only [Act.put, List.setIfInBounds_toArray, List.set_cons_zero, List.set_cons_succ, i64_w, i32_w]
                                rfl
                              refine pure_ (i := 9) (N := some 47) (v := ?_) (a' := ?_) #[true, true, true, true, false, false, true, false, true, true, false, false, false, false] rfl rfl (any_of HT_.out (by kernel_rfl)) (fun _ _ _ h => h) (Or.inl ⟨by rfl, ?_⟩) ?_ ?_
                              rotate_left
                              · intro w'
                                go_simp
                                with_reducible rfl
                              rotate_left
                              · simp only [Act.put, List.setIfInBounds_toArray, List.set_cons_zero, List.set_cons_succ, i64_w, i32_w]
                                rfl
                              refine pure_ (i := 10) (N := some 48) (v := ?_) (a' := ?_) #[true, true, true, true, false, false, true, false, true, true, true, false, false, false] rfl rfl (any_of HT_.out (by kernel_rfl)) (fun _ _ _ h => h) (Or.inl ⟨by rfl, ?_⟩) ?_ ?_
                              rotate_left
                              · intro w'
                                go_simp
                                with_reducible rfl
                              rotate_left
                              · simp only [Act.put, List.setIfInBounds_toArray, List.set_cons_zero, List.set_cons_succ, i64_w, i32_w]
                                rfl
                              refine take_ (i := 4) (N := some 42) (v := ?_) (a' := ?_) #[true, true, true, true, true, false, true, false, true, true, true, false, false, false] rfl rfl (take_ofW HT_.out HW_.out (by kernel_rfl)) (fun _ _ _ h => h) (Or.inl ⟨by rfl, ?_⟩) hHeld ?_ ?_
                              rotate_left
                              · rintro w' ⟨s0, s1, s2, s3⟩
                                go_simp
                                with_reducible rfl
                              rotate_left
                              · simp only [Act.put, List.setIfInBounds_toArray, List.set_cons_zero, List.set_cons_succ, i64_w, i32_w]
                                rfl
                              refine take_ (i := 11) (N := some 49) (v := ?_) (a' := ?_) #[true, true, true, true, true, false, true, false, true, true, true, true, false, false] rfl rfl (take_ofW HT_.out HW_.out (by kernel_rfl)) (fun _ _ _ h => h) (Or.inl ⟨by rfl, ?_⟩) hHeld ?_ ?_
                              rotate_left
                              · rintro w' ⟨s0, s1, s2, s3⟩
                                go_simp
                                with_reducible rfl
                              rotate_left
                              · simp only [Act.put, List.setIfInBounds_toArray, List.set_cons_zero, List.set_cons_succ, i64_w, i32_w]
                                rfl
                              refine pure_ (i := 12) (N := some 50) (v := ?_) (a' := ?_) #[true, true, true, true, true, false, true, false, true, true, true, true, true, false] rfl rfl (any_of HT_.out (by kernel_rfl)) (fun _ _ _ h => h) (Or.inl ⟨by rfl, ?_⟩) ?_ ?_
                              rotate_left
                              · intro w'
                                go_simp
                                with_reducible rfl
                              rotate_left
                              · simp only [Act.put, List.setIfInBounds_toArray, List.set_cons_zero, List.set_cons_succ, i64_w, i32_w]
                                rfl
                              refine one_ (i := 5) (N := some 43) #[true, true, true, true, true, true, true, false, true, true, true, true, true, false] rfl rfl (one_of HT_.out (by kernel_rfl)) (by decide) (fun K hK => ?_)
                              refine goes_ Try.func44 (by kernel_rfl) rfl #[.slice (some ad136) l0.length c0, .int .i64 (rd t133 x6_1)] (by rfl) rfl rfl (by (try simp only [List.map_toArray, List.map_cons, List.map_nil]); first | done | rfl) ?_
                              with_reducible refine (spec_l7Part.calls _ _ l0 (rd t133 x6_1) _ A33 c33 y145 ?zr ?zc K033.out HLT_.out KL33.out KQ33.out KA33.out KY33.out KC33.out).mono ?_
                              (case zr => repeat (first | exact (Kd.C_below HR0.out HB.out) | (with_reducible refine Kd.C_alloc ?_ _) | (with_reducible refine Kd.C_drewN ?_ _) | (with_reducible refine Kd.C_drew ?_)))
                              (case zc => exact HC0.out)
                              rintro e w34b ⟨rfl, hd_⟩; have hb := below_of hd_; clear hd_
                              have HS0_ := (hb.cell (World.block_lt_of_cell? _ _ (hHeld.1))).trans (hHeld.1)
                              refine ⟨_, rfl, ?_⟩
                              have n0_ := Aside0.mk (Kd.R_below (by (with_reducible repeat (first | apply Kd.R_alloc | apply Kd.R_drewN | apply Kd.R_drew)); exact HO_5.out) hb)
                              have n1_ := Aside0.mk (below_step (by repeat (first | (with_reducible first | exact HB.out | apply below_alloc | apply pw_below_drewN | apply below_drew1) | exact HB.out)) hb)
                              clear HO_5
                              clear HB
                              have HO_5 := n0_
                              have HB := n1_
                              clear n0_ n1_
                              (try clear hb)
                              (try clear hb2)
                              (try clear hk)
                              (try clear hi)
                              refine hK.out _ _ ⟨HS0_, ((HB.out.cell (World.block_lt_of_cell? w _ hw150_0)).trans hw150_0), ((HB.out.cell (World.block_lt_of_cell? w _ hw150_1)).trans hw150_1), ((HB.out.cell (World.block_lt_of_cell? w _ hw150_2)).trans hw150_2)⟩ (fun hHeld => ?_)
                              clear hK K
                              refine norm_ (a' := ?_) ?_ ?_
                              rotate_left
                              · show Act.put _ (some 43) _ = _
                                simp only [Act.put, List.setIfInBounds_toArray, List.set_cons_zero, List.set_cons_succ, i64_w, i32_w]
                                rfl
                              refine one_ (i := 7) (N := some 45) #[true, true, true, true, true, true, true, true, true, true, true, true, true, false] rfl rfl (one_of HT_.out (by kernel_rfl)) (by decide) (fun K hK => ?_)
                              refine goes_ Try.func31 (by kernel_rfl) rfl #[.slice A33 y145.length c33, .slice A1 l1.length c1] (by rfl) rfl rfl (by (try simp only [List.map_toArray, List.map_cons, List.map_nil]); first | done | rfl | (simp only [List.length_drop, List.length_take]; rfl)) ?_
                              with_reducible refine (ih k1 (by have := HK1.out; omega) _ _ y145 _ _ l1 t149 _ ?side1 ?side2 ?side3 ?side4 A24.out).mono ?_
                              (case side1 => repeat (first | exact (Kd.C_below HR148.out HB.out) | (with_reducible refine Kd.C_alloc ?_ _) | (with_reducible refine Kd.C_drewN ?_ _) | (with_reducible refine Kd.C_drew ?_)))
                              (case side2 => exact HC148.out)
                              (case side3 => repeat (first | exact (Kd.C_below HR1.out HB.out) | (with_reducible refine Kd.C_alloc ?_ _) | (with_reducible refine Kd.C_drewN ?_ _) | (with_reducible refine Kd.C_drew ?_)))
                              (case side4 => exact HC1.out)
                              rintro e w34 ⟨rfl, hb⟩
                              have HS0_ := (hb.cell (World.block_lt_of_cell? _ _ (hHeld.1))).trans (hHeld.1)
                              refine ⟨_, rfl, ?_⟩
                              have n0_ := Aside0.mk (Kd.R_below (by (with_reducible repeat (first | apply Kd.R_alloc | apply Kd.R_drewN | apply Kd.R_drew)); exact HO_5.out) hb)
                              have n1_ := Aside0.mk (below_step (by repeat (first | (with_reducible first | exact HB.out | apply below_alloc | apply pw_below_drewN | apply below_drew1) | exact HB.out)) hb)
                              clear HO_5
                              clear HB
                              have HO_5 := n0_
                              have HB := n1_
                              clear n0_ n1_
                              (try clear hb)
                              (try clear hb2)
                              (try clear hk)
                              (try clear hi)
                              refine hK.out _ _ ⟨HS0_, ((HB.out.cell (World.block_lt_of_cell? w _ hw150_0)).trans hw150_0), ((HB.out.cell (World.block_lt_of_cell? w _ hw150_1)).trans hw150_1), ((HB.out.cell (World.block_lt_of_cell? w _ hw150_2)).trans hw150_2)⟩ (fun hHeld => ?_)
                              clear hK K
                              refine norm_ (a' := ?_) ?_ ?_
                              rotate_left
                              · show Act.put _ (some 45) _ = _
                                simp only [Act.put, List.setIfInBounds_toArray, List.set_cons_zero, List.set_cons_succ, i64_w, i32_w]
                                rfl
                              refine pure_ (i := 13) (N := some 51) (v := ?_) (a' := ?_) #[true, true, true, true, true, true, true, true, true, true, true, true, true, true] rfl rfl (any_of HT_.out (by kernel_rfl)) (fun _ _ _ h => h) (Or.inl ⟨by rfl, ?_⟩) ?_ ?_
                              rotate_left
                              · intro w'
                                go_simp
                                with_reducible rfl
                              rotate_left
                              · simp only [Act.put, List.setIfInBounds_toArray, List.set_cons_zero, List.set_cons_succ, i64_w, i32_w]
                                rfl
                              refine done_ (done_of HT_.out (by kernel_rfl)) ?_
                              try go_wp2
                              go_roundg k1
                              case measure => have := HK1.out; omega
                              case rel => exact ⟨(wrap64 (x6_1 + 1)), (by first | rfl | (simp; done) | (simp [*]; done)), H', ⟨by have := HK1.out; omega⟩, ⟨by (with_reducible repeat (first | apply Kd.R_alloc | apply Kd.R_drewN | apply Kd.R_drew)); exact HO_5.out⟩, ⟨by repeat (first | (with_reducible first | exact HB.out | apply below_alloc | apply pw_below_drewN | apply below_drew1) | exact HB.out)⟩⟩
                          · rw [if_neg c25] at H
                            exact absurd H (by simp)
                        · rw [if_neg c23] at H
                          exact absurd H (by simp)
                      · rw [if_neg c22] at H
                        exact absurd H (by simp)
                    · rw [if_neg c21] at H
                      exact absurd H (by simp)
                  · rw [if_neg c20] at H
                    exact absurd H (by simp)
                · rw [if_neg c19] at H
                  have c19b0 : decide (x6_1 < (t133.length : Int)) = false := decide_eq_false c19
                  clear c19
                  by_cases c35 : 0 < (l0.length : Int)
                  · rw [if_pos c35] at H
                    have c35b0 : decide (0 < (l0.length : Int)) = true := decide_eq_true c35
                    have c35b1 : decide (0 < l0.length) = true := decide_eq_true (by omega)
                    clear c35
                    obtain rfl := Option.some.inj H
                    obtain ⟨Ao36, co36, eo36⟩ := Kd.R_slice HO_5.out
                    subst eo36
                    have p152 : 0 ≤ (0 : Int) := (by omega)
                    have q152 : 0 < (l0.length : Int) := of_decide_eq_true (by first | (with_reducible assumption) | assumption)
                    obtain ⟨ad152, e152, hx152_0, hx152_1, hx152_2⟩ := at_T45 HR0.out 0 p152 q152
                    obtain rfl : ad136 = ad152 := (by injection e152)
                    have qi152 : (0 < l0.length) = True := eq_true (by omega)
                    (try rw [show ((0 : Int)).toNat = 0 from rfl] at hx152_0)
                    (try rw [show 0 * 3 = 0 from rfl] at hx152_0)
                    (try rw [Addr.add_zero'] at hx152_0)
                    (try rw [show ((0 : Int)).toNat = 0 from rfl] at hx152_1)
                    (try rw [show 0 * 3 = 0 from rfl] at hx152_1)
                    (try rw [Addr.add_zero'] at hx152_1)
                    (try rw [show ((0 : Int)).toNat = 0 from rfl] at hx152_2)
                    (try rw [show 0 * 3 = 0 from rfl] at hx152_2)
                    (try rw [Addr.add_zero'] at hx152_2)
                    try (replace hx152_0 := (HB.out.cell (World.block_lt_of_cell? w _ hx152_0)).trans hx152_0)
                    try (replace hx152_1 := (HB.out.cell (World.block_lt_of_cell? w _ hx152_1)).trans hx152_1)
                    try (replace hx152_2 := (HB.out.cell (World.block_lt_of_cell? w _ hx152_2)).trans hx152_2)
                    replace p152 := eq_true p152
                    replace q152 := eq_true q152
                    go_wp2
                    go_ret
                    exact ⟨by first | rfl | (simp [errW_none, errW_some] <;> rfl) | (simp [*, errW_none, errW_some] <;> rfl), by repeat (first | (with_reducible first | exact HB.out | apply below_alloc | apply pw_below_drewN | apply below_drew1) | exact HB.out)⟩
                  · rw [if_neg c35] at H
                    exact absurd H (by simp)
  · rw [if_neg c4] at H
    exact absurd H (by simp)

/-! ### spec_Holds: function 14 -/
def spec_Holds.f (k : Nat) (l0 : List (S45)) (l1 : List ByteArray) : Option (Bool) := (spec_CondOk.f k l0).bind fun t133 => (if t133 = true then (if (l1.length : Int) ≤ 2000 then ((spec_l7Holds.f k l0 l1).bind fun t134 => (some t134)) else (some false)) else (some false))
theorem spec_Holds.mono : ∀ a0 a1 k, LeO (spec_Holds.f k a0 a1) (spec_Holds.f (k + 1) a0 a1) := by
  intro a0 a1 k
  unfold spec_Holds.f
  repeat' first
      | (with_reducible exact spec_CondOk.mono _ _)
      | (with_reducible exact spec_l7Holds.mono _ _ _)
      | (with_reducible exact LeO.refl _)
      | (with_reducible exact LeO.none _)
      | (with_reducible refine LeO.ite ?_ ?_)
      | (with_reducible refine LeO.bind ?_ (fun _ => ?_))
      | exact spec_CondOk.mono _ _
      | exact spec_l7Holds.mono _ _ _
      | exact LeO.none _
      | refine LeO.ite ?_ ?_
      | refine LeO.bind ?_ (fun _ => ?_)
set_option maxHeartbeats 8000000 in
set_option maxRecDepth 100000 in
theorem spec_Holds.calls (k : Nat) (A0 : Option Addr) (c0 : Nat) (l0 : List (S45)) (A1 : Option Addr) (c1 : Nat) (l1 : List ByteArray) (r : Bool) (w : World) (hr0 : Kd.C k45 w A0 l0.length l0) (hc0 : l0.length ≤ c0) (hr1 : Kd.C Kd.string w A1 l1.length l1) (hc1 : l1.length ≤ c1) (h : spec_Holds.f k l0 l1 = some r) :
    Calls Try.prog 14 #[.slice A0 l0.length c0, .slice A1 l1.length c1] w fun e w' => e = .returned (.bool r) ∧ Below w.heap.size w w' := by
  have HR0 := Aside0.mk hr0
  have HC0 := Aside0.mk hc0
  clear hr0 hc0
  have HR1 := Aside0.mk hr1
  have HC1 := Aside0.mk hc1
  clear hr1 hc1
  have HB := Aside0.mk (Below.refl w.heap.size w)
  have H : ((spec_CondOk.f k l0).bind fun t133 => (if t133 = true then (if (l1.length : Int) ≤ 2000 then ((spec_l7Holds.f k l0 l1).bind fun t134 => (some t134)) else (some false)) else (some false))) = some r := h
  clear h
  replace H := Option.bind_eq_some_iff.mp H
  obtain ⟨t133, A30, H⟩ := H
  replace H : (if t133 = true then (if (l1.length : Int) ≤ 2000 then ((spec_l7Holds.f k l0 l1).bind fun t134 => (some t134)) else (some false)) else (some false)) = some r := H
  have A3 := Aside0.mk A30
  clear A30
  by_cases c4 : t133 = true
  · subst c4
    have H1 : (if (l1.length : Int) ≤ 2000 then ((spec_l7Holds.f k l0 l1).bind fun t134 => (some t134)) else (some false)) = some r := by rw [if_pos rfl] at H; exact H
    clear H
    have H := H1
    clear H1
    by_cases c5 : (l1.length : Int) ≤ 2000
    · rw [if_pos c5] at H
      have c5b0 : decide ((l1.length : Int) ≤ 2000) = true := decide_eq_true c5
      have c5b1 : decide (l1.length ≤ 2000) = true := decide_eq_true (by omega)
      clear c5
      replace H := Option.bind_eq_some_iff.mp H
      obtain ⟨t134, A60, H⟩ := H
      replace H : (some t134) = some r := H
      have A6 := Aside0.mk A60
      clear A60
      obtain rfl := Option.some.inj H
      go_enter Try.func14, Try.ntmps14
      go_wp2_with (first | ((with_reducible refine gate_callee (f := 9) rfl ?_); refine goesL_ (some 6) rfl rfl Try.func9 (by kernel_rfl) rfl #[.slice A0 l0.length c0] rfl (by (try simp only [List.map_toArray, List.map_cons, List.map_nil]); first | done | rfl | (simp only [List.length_drop, List.length_take]; rfl)) ?_; (with_reducible refine (spec_CondOk.calls k _ _ l0 true _ ?side1 ?side2 A3.out).mono ?_); (case side1 => repeat (first | exact HR0.out | (with_reducible refine Kd.C_alloc ?_ _) | (with_reducible refine Kd.C_drewN ?_ _) | (with_reducible refine Kd.C_drew ?_))); (case side2 => exact HC0.out); rintro e w' ⟨rfl, ⟨nd, rfl⟩⟩; refine ⟨_, rfl, ?_⟩) | (go_at_call 31; (with_reducible refine (spec_l7Holds.calls k _ _ l0 _ _ l1 t134 _ ?side1 ?side2 ?side3 ?side4 A6.out).mono ?_); (case side1 => repeat (first | exact HR0.out | (with_reducible refine Kd.C_alloc ?_ _) | (with_reducible refine Kd.C_drewN ?_ _) | (with_reducible refine Kd.C_drew ?_))); (case side2 => exact HC0.out); (case side3 => repeat (first | exact HR1.out | (with_reducible refine Kd.C_alloc ?_ _) | (with_reducible refine Kd.C_drewN ?_ _) | (with_reducible refine Kd.C_drew ?_))); (case side4 => exact HC1.out); rintro e w7 ⟨rfl, hb⟩; have n0_ := Aside0.mk (below_step (by repeat (first | (with_reducible first | exact HB.out | apply below_alloc | apply pw_below_drewN | apply below_drew1) | exact HB.out)) hb); clear HB; have HB := n0_; clear n0_; (try clear hb); (try clear hb2); (try clear hk); (try clear hi)))
      go_ret
      exact ⟨by first | rfl | (simp [errW_none, errW_some] <;> rfl) | (simp [*, errW_none, errW_some] <;> rfl), by repeat (first | (with_reducible first | exact HB.out | apply below_alloc | apply pw_below_drewN | apply below_drew1) | exact HB.out)⟩
    · rw [if_neg c5] at H
      have c5b0 : decide ((l1.length : Int) ≤ 2000) = false := decide_eq_false c5
      have c5b1 : decide (l1.length ≤ 2000) = false := decide_eq_false (by omega)
      clear c5
      obtain rfl := Option.some.inj H
      go_enter Try.func14, Try.ntmps14
      go_wp2_with (first | ((with_reducible refine gate_callee (f := 9) rfl ?_); refine goesL_ (some 6) rfl rfl Try.func9 (by kernel_rfl) rfl #[.slice A0 l0.length c0] rfl (by (try simp only [List.map_toArray, List.map_cons, List.map_nil]); first | done | rfl | (simp only [List.length_drop, List.length_take]; rfl)) ?_; (with_reducible refine (spec_CondOk.calls k _ _ l0 true _ ?side1 ?side2 A3.out).mono ?_); (case side1 => repeat (first | exact HR0.out | (with_reducible refine Kd.C_alloc ?_ _) | (with_reducible refine Kd.C_drewN ?_ _) | (with_reducible refine Kd.C_drew ?_))); (case side2 => exact HC0.out); rintro e w' ⟨rfl, ⟨nd, rfl⟩⟩; refine ⟨_, rfl, ?_⟩))
      go_ret
      exact ⟨by first | rfl | (simp [errW_none, errW_some] <;> rfl) | (simp [*, errW_none, errW_some] <;> rfl), by repeat (first | (with_reducible first | exact HB.out | apply below_alloc | apply pw_below_drewN | apply below_drew1) | exact HB.out)⟩
  · replace c4 := Bool.eq_false_iff.mpr c4
    subst c4
    have H1 : (some false) = some r := by rw [if_neg (show ¬ (false = true) by decide)] at H; exact H
    clear H
    have H := H1
    clear H1
    obtain rfl := Option.some.inj H
    go_enter Try.func14, Try.ntmps14
    go_wp2_with (first | ((with_reducible refine gate_callee (f := 9) rfl ?_); refine goesL_ (some 6) rfl rfl Try.func9 (by kernel_rfl) rfl #[.slice A0 l0.length c0] rfl (by (try simp only [List.map_toArray, List.map_cons, List.map_nil]); first | done | rfl | (simp only [List.length_drop, List.length_take]; rfl)) ?_; (with_reducible refine (spec_CondOk.calls k _ _ l0 false _ ?side1 ?side2 A3.out).mono ?_); (case side1 => repeat (first | exact HR0.out | (with_reducible refine Kd.C_alloc ?_ _) | (with_reducible refine Kd.C_drewN ?_ _) | (with_reducible refine Kd.C_drew ?_))); (case side2 => exact HC0.out); rintro e w' ⟨rfl, ⟨nd, rfl⟩⟩; refine ⟨_, rfl, ?_⟩))
    go_ret
    exact ⟨by first | rfl | (simp [errW_none, errW_some] <;> rfl) | (simp [*, errW_none, errW_some] <;> rfl), by repeat (first | (with_reducible first | exact HB.out | apply below_alloc | apply pw_below_drewN | apply below_drew1) | exact HB.out)⟩

end Go.Proofs.Ytoipkndeeeolcaa.PFnExactHolds
