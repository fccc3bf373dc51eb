-- Laid by a program of this session: a turned copy of the kit's print, with contracts by hand beside.
import Derived.Test.YtbgnjnlecpdfaaaPFnExactRollbackx0
import Derived.Test.YtbgnjnlecpdfaaaPFnExactRollbackx1
import Derived.Test.YtbgnjnlecpdfaaaPFnExactRollbackx2
import Derived.Test.YtbgnjnlecpdfaaaPFnExactRollbackx6
import Derived.Test.YtbgnjnlecpdfaaaPFnExactRollbackx9
import Derived.Test.YtbgnjnlecpdfaaaPFnExactRollbackx10
namespace Go.Proofs.Ytbgnjnlecpdfaaa.PFnExactRollback
open Go.RowKit Go.Proofs.YtbgnjnlecpdfaaaW.PrintWords Go.Proofs.YtbgnjnlecpdfaaaW.PrintLast Go.Proofs.YtbgnjnlecpdfaaaW.PrintMore
attribute [local go_sem] max2_int min2_int max_two min_two max_three min_three max_four min_four   -- for this text's walks alone
set_option linter.unusedVariables false
set_option linter.unusedSimpArgs false

/-! ### laws_heldProfileS: function 19 -/
def laws_heldProfileS.l0 : Nat → List (S52) → Int → Int → Option (Int)
  | 0, _, _, _ => none
  | k + 1, x0, x1, x5 => if x5 < (x0.length : Int) then (if 0 ≤ x5 then ((laws_markText.f k x1).bind fun t235 => (if ((rd_T52 x0 x5).f0).toList = t235.toList then (if ((rd_T52 x0 x5).f1) = (wrap64 (x1 + 1)) then ((laws_heldGenS.f k ((rd_T52 x0 x5).f2) (wrap64 ((wrap64 (x1 + 1)) + 1))).bind fun t238 => (if t238 < 0 then (some (-1)) else (laws_heldProfileS.l0 k x0 t238 (wrap64 (x5 + 1))))) else (some (-1))) else (some (-1)))) else (none)) else (some x1)
def laws_heldProfileS.f (k : Nat) (l0 : List (S52)) (a1 : Int) : Option (Int) := laws_heldProfileS.l0 k l0 a1 0
theorem laws_heldProfileS.mono_l : ∀ k, (∀ y0 y1 y2, LeO (laws_heldProfileS.l0 k y0 y1 y2) (laws_heldProfileS.l0 (k + 1) y0 y1 y2))
  | 0 => fun _ _ _ r h => by simp [laws_heldProfileS.l0] at h
  | k + 1 => by
    have ih0 := laws_heldProfileS.mono_l k
    · intro y0 y1 y2
      unfold laws_heldProfileS.l0
      repeat' first
      | (with_reducible exact ih0 _ _ _)
      | (with_reducible exact laws_heldGenS.mono _ _ _)
      | (with_reducible exact laws_markText.mono _ _)
      | (with_reducible exact LeO.refl _)
      | (with_reducible exact LeO.none _)
      | (with_reducible refine LeO.ite ?_ ?_)
      | (with_reducible refine LeO.bind ?_ (fun _ => ?_))
      | exact ih0 _ _ _
      | exact laws_heldGenS.mono _ _ _
      | exact laws_markText.mono _ _
      | exact LeO.none _
      | refine LeO.ite ?_ ?_
      | refine LeO.bind ?_ (fun _ => ?_)
theorem laws_heldProfileS.mono : ∀ a0 a1 k, LeO (laws_heldProfileS.f k a0 a1) (laws_heldProfileS.f (k + 1) a0 a1) := by
  intro a0 a1 k
  have ih0 := laws_heldProfileS.mono_l k
  unfold laws_heldProfileS.f
  repeat' first
      | (with_reducible exact ih0 _ _ _)
      | (with_reducible exact laws_heldGenS.mono _ _ _)
      | (with_reducible exact laws_markText.mono _ _)
      | (with_reducible exact LeO.refl _)
      | (with_reducible exact LeO.none _)
      | (with_reducible refine LeO.ite ?_ ?_)
      | (with_reducible refine LeO.bind ?_ (fun _ => ?_))
      | exact ih0 _ _ _
      | exact laws_heldGenS.mono _ _ _
      | exact laws_markText.mono _ _
      | exact LeO.none _
      | refine LeO.ite ?_ ?_
      | refine LeO.bind ?_ (fun _ => ?_)
def laws_heldProfileS.T4 : Bool × List (List Nat × List Nat) := (true, [([], []), ([], []), ([0, 1], [0, 1]), ([2], [2]), ([3], [3]), ([], []), ([5], [5]), ([4, 6], [4, 6])])
def laws_heldProfileS.B4 : List Nat := [0, 0, 3, 7, 15, 0, 32, 127]
theorem laws_heldProfileS.tab4 : rtab .any (opsOf Try.f19 4) = laws_heldProfileS.T4 := by kernel_rfl
theorem laws_heldProfileS.bits4 : waitsOk laws_heldProfileS.T4.2 laws_heldProfileS.B4 = true := by kernel_rfl
set_option maxHeartbeats 8000000 in
set_option maxRecDepth 100000 in
theorem laws_heldProfileS.calls (k : Nat) (A0 : Option Addr) (c0 : Nat) (l0 : List (S52)) (a1 : Int) (r : Int) (w : World) (hr0 : Kd.C k52 w A0 l0.length l0) (hc0 : l0.length ≤ c0) (h : laws_heldProfileS.f k l0 a1 = some r) :
    Calls Try.prog 19 #[.slice A0 l0.length c0, .int .i64 a1] w fun e w' => e = .returned (.int .i64 r) ∧ Below w.heap.size w w' := by
  have HR0 := Aside0.mk hr0
  have HC0 := Aside0.mk hc0
  clear hr0 hc0
  have HB := Aside0.mk (Below.refl w.heap.size w)
  have H : (laws_heldProfileS.l0 k l0 a1 0) = some r := h
  clear h
  have H' := Aside0.mk H
  clear H
  go_enter Try.func19, Try.ntmps19
  go_wp2
  go_loopg [1, 5] k (fun kq v1 v5 w' => ∃ (x1_1 : Int) (x5_1 : Int), v1 = .int .i64 x1_1 ∧ v5 = .int .i64 x5_1 ∧ Aside0 (laws_heldProfileS.l0 kq l0 x1_1 x5_1 = some r) ∧ Aside0 (kq ≤ k) ∧ Aside0 (Below w.heap.size w w'))
  case atStart => exact ⟨(a1), (0), (by first | rfl | (simp; done) | (simp [*]; done)), (by first | rfl | (simp; done) | (simp [*]; done)), H', ⟨Nat.le_refl _⟩, ⟨by repeat (first | (with_reducible first | exact HB.out | apply below_alloc | apply pw_below_drewN | apply below_drew1) | exact HB.out)⟩⟩
  case round =>
    clear H'
    try clear c1
    try clear p2
    obtain ⟨x1_1, x5_1, rfl, rfl, HA, HK1, HB⟩ := hrel
    cases gk with
    | zero => exact absurd HA.out (by simp [laws_heldProfileS.l0])
    | succ k1 =>
      have H := HA.out
      clear HA
      simp only [laws_heldProfileS.l0] at H
      by_cases c3 : x5_1 < (l0.length : Int)
      · rw [if_pos c3] at H
        have c3b0 : decide (x5_1 < (l0.length : Int)) = true := decide_eq_true c3
        clear c3
        by_cases c4 : 0 ≤ x5_1
        · rw [if_pos c4] at H
          have c4b0 : decide (0 ≤ x5_1) = true := decide_eq_true c4
          clear c4
          replace H := Option.bind_eq_some_iff.mp H
          obtain ⟨t235, A50, H⟩ := H
          replace H : (if ((rd_T52 l0 x5_1).f0).toList = t235.toList then (if ((rd_T52 l0 x5_1).f1) = (wrap64 (x1_1 + 1)) then ((laws_heldGenS.f k1 ((rd_T52 l0 x5_1).f2) (wrap64 ((wrap64 (x1_1 + 1)) + 1))).bind fun t238 => (if t238 < 0 then (some (-1)) else (laws_heldProfileS.l0 k1 l0 t238 (wrap64 (x5_1 + 1))))) else (some (-1))) else (some (-1))) = some r := H
          have A5 := Aside0.mk A50
          clear A50
          by_cases c6 : ((rd_T52 l0 x5_1).f0).toList = t235.toList
          · rw [if_pos c6] at H
            have c6b0 : (((rd_T52 l0 x5_1).f0).toList == t235.toList) = true := beq_iff_eq.mpr c6
            have c6b1 : (((rd_T52 l0 x5_1).f0).toList != t235.toList) = false := bne_eq_false_iff_eq.mpr c6
            clear c6
            by_cases c7 : ((rd_T52 l0 x5_1).f1) = (wrap64 (x1_1 + 1))
            · rw [if_pos c7] at H
              have c7b0 : (((rd_T52 l0 x5_1).f1) == (wrap64 (x1_1 + 1))) = true := beq_iff_eq.mpr c7
              have c7b1 : (((rd_T52 l0 x5_1).f1) != (wrap64 (x1_1 + 1))) = false := bne_eq_false_iff_eq.mpr c7
              clear c7
              replace H := Option.bind_eq_some_iff.mp H
              obtain ⟨t238, A80, H⟩ := H
              replace H : (if t238 < 0 then (some (-1)) else (laws_heldProfileS.l0 k1 l0 t238 (wrap64 (x5_1 + 1)))) = some r := H
              have A8 := Aside0.mk A80
              clear A80
              by_cases c9 : t238 < 0
              · rw [if_pos c9] at H
                have c9b0 : decide (t238 < 0) = true := decide_eq_true c9
                clear c9
                obtain rfl := Option.some.inj H
                try go_wp2
                have n0_ := Aside0.mk (below_drew1 HB.out)
                clear HB
                have HB := n0_
                clear n0_
                have p234 : 0 ≤ (x5_1 : Int) := of_decide_eq_true (by first | (with_reducible assumption) | assumption)
                have q234 : x5_1 < (l0.length : Int) := of_decide_eq_true (by first | (with_reducible assumption) | assumption)
                obtain ⟨ad234, A234_2, c234_2, e234, hx234_0, hx234_1, hx234_2, hl234_2, hi234_2⟩ := at_T52 HR0.out x5_1 p234 q234
                have hw234_2 := hx234_2
                have hw234_1 := hx234_1
                have hw234_0 := hx234_0
                cases e234
                try (replace hx234_0 := (HB.out.cell (World.block_lt_of_cell? w _ hx234_0)).trans hx234_0)
                try (replace hx234_1 := (HB.out.cell (World.block_lt_of_cell? w _ hx234_1)).trans hx234_1)
                try (replace hx234_2 := (HB.out.cell (World.block_lt_of_cell? w _ hx234_2)).trans hx234_2)
                have HR234_2 := Aside0.mk hi234_2
                have HC234_2 := Aside0.mk hl234_2
                clear hi234_2 hl234_2
                replace p234 := eq_true p234
                replace q234 := eq_true q234
                refine start_ (n := 8) (S := fun w' => w'.cell? (ad234.add ((x5_1).toNat * 3)) = some (.string ((rd_T52 l0 x5_1).f0)) ∧ w'.cell? ⟨(ad234.add ((x5_1).toNat * 3)).block, (ad234.add ((x5_1).toNat * 3)).off + 1, none⟩ = some (.int .i64 ((rd_T52 l0 x5_1).f1)) ∧ w'.cell? ⟨(ad234.add ((x5_1).toNat * 3)).block, (ad234.add ((x5_1).toNat * 3)).off + 2, none⟩ = some (.slice A234_2 ((rd_T52 l0 x5_1).f2).length c234_2)) (ds := []) #[false, false, false, false, false, false, false, false] (by kernel_rfl) rfl rfl ⟨((HB.out.cell (World.block_lt_of_cell? w _ hw234_0)).trans hw234_0), ((HB.out.cell (World.block_lt_of_cell? w _ hw234_1)).trans hw234_1), ((HB.out.cell (World.block_lt_of_cell? w _ hw234_2)).trans hw234_2)⟩ (fun hHeld => ?_); refine with_tabW laws_heldProfileS.tab4 laws_heldProfileS.bits4 (fun HT_ HW_ => ?_)
                generalize wr.drew = w10 at HB HR234_2 hx234_0 hx234_1 hx234_2 hHeld ⊢
                refine pure_ (i := 0) (N := some 12) (v := ?_) (a' := ?_) #[true, false, false, false, false, false, false, false] rfl rfl (any_of HT_.out (by kernel_rfl)) (fun _ _ _ h => h) (Or.inl ⟨by rfl, ?_⟩) ?_ ?_
                rotate_left
                · intro w'
                  go_simp
                  with_reducible rfl
                rotate_left
                · simp only [Act.put, List.setIfInBounds_toArray, List.set_cons_zero, List.set_cons_succ, i64_w, i32_w]
                  rfl
                refine pure_ (i := 1) (N := some 13) (v := ?_) (a' := ?_) #[true, true, false, false, false, false, false, false] rfl rfl (any_of HT_.out (by kernel_rfl)) (fun _ _ _ h => h) (Or.inl ⟨by rfl, ?_⟩) ?_ ?_
                rotate_left
                · intro w'
                  go_simp
                  with_reducible rfl
                rotate_left
                · simp only [Act.put, List.setIfInBounds_toArray, List.set_cons_zero, List.set_cons_succ, i64_w, i32_w]
                  rfl
                refine pure_ (i := 2) (N := some 14) (v := ?_) (a' := ?_) #[true, true, true, false, false, false, false, false] rfl rfl (any_of HT_.out (by kernel_rfl)) (fun _ _ _ h => h) (Or.inl ⟨by rfl, ?_⟩) ?_ ?_
                rotate_left
                · intro w'
                  go_simp
                  with_reducible rfl
                rotate_left
                · simp only [Act.put, List.setIfInBounds_toArray, List.set_cons_zero, List.set_cons_succ, i64_w, i32_w]
                  rfl
                refine pure_ (i := 3) (N := some 15) (v := ?_) (a' := ?_) #[true, true, true, true, false, false, false, false] rfl rfl (any_of HT_.out (by kernel_rfl)) (fun _ _ _ h => h) (Or.inl ⟨by rfl, ?_⟩) ?_ ?_
                rotate_left
                · intro w'
                  go_simp
                  with_reducible rfl
                rotate_left
                · simp only [Act.put, List.setIfInBounds_toArray, List.set_cons_zero, List.set_cons_succ, i64_w, i32_w]
                  rfl
                refine pure_ (i := 5) (N := some 17) (v := ?_) (a' := ?_) #[true, true, true, true, false, true, false, false] rfl rfl (any_of HT_.out (by kernel_rfl)) (fun _ _ _ h => h) (Or.inl ⟨by rfl, ?_⟩) ?_ ?_
                rotate_left
                · intro w'
                  go_simp
                  with_reducible rfl
                rotate_left
                · simp only [Act.put, List.setIfInBounds_toArray, List.set_cons_zero, List.set_cons_succ, i64_w, i32_w]
                  rfl
                refine take_ (i := 4) (N := some 16) (v := ?_) (a' := ?_) #[true, true, true, true, true, true, false, false] rfl rfl (take_ofW HT_.out HW_.out (by kernel_rfl)) (fun _ _ _ h => h) (Or.inl ⟨by rfl, ?_⟩) hHeld ?_ ?_
                rotate_left
                · rintro w' ⟨s0, s1, s2⟩
                  go_simp
                  with_reducible rfl
                rotate_left
                · simp only [Act.put, List.setIfInBounds_toArray, List.set_cons_zero, List.set_cons_succ, i64_w, i32_w]
                  rfl
                refine one_ (i := 6) (N := some 18) #[true, true, true, true, true, true, true, false] rfl rfl (one_of HT_.out (by kernel_rfl)) (by decide) (fun K hK => ?_)
                refine goes_ Try.func43 (by kernel_rfl) rfl #[.int .i64 x1_1] (by rfl) rfl rfl (by (try simp only [List.map_toArray, List.map_cons, List.map_nil]); first | done | rfl | (simp only [List.length_drop, List.length_take]; rfl)) ?_
                with_reducible refine (laws_markText.calls k1 x1_1 t235 _ A5.out).mono ?_
                rintro e w11 ⟨rfl, hb⟩
                refine ⟨_, rfl, ?_⟩
                have n0_ := Aside0.mk (below_step (by repeat (first | (with_reducible first | exact HB.out | apply below_alloc | apply pw_below_drewN | apply below_drew1) | exact HB.out)) hb)
                clear HB
                have HB := n0_
                clear n0_
                (try clear hb)
                (try clear hb2)
                (try clear hk)
                (try clear hi)
                refine hK.out _ _ ⟨((HB.out.cell (World.block_lt_of_cell? w _ hw234_0)).trans hw234_0), ((HB.out.cell (World.block_lt_of_cell? w _ hw234_1)).trans hw234_1), ((HB.out.cell (World.block_lt_of_cell? w _ hw234_2)).trans hw234_2)⟩ (fun hHeld => ?_)
                clear hK K
                refine norm_ (a' := ?_) ?_ ?_
                rotate_left
                · show Act.put _ (some 18) _ = _
                  simp only [Act.put, List.setIfInBounds_toArray, List.set_cons_zero, List.set_cons_succ, i64_w, i32_w]
                  rfl
                refine pure_ (i := 7) (N := some 19) (v := ?_) (a' := ?_) #[true, true, true, true, true, true, true, true] rfl rfl (any_of HT_.out (by kernel_rfl)) (fun _ _ _ h => h) (Or.inl ⟨by rfl, ?_⟩) ?_ ?_
                rotate_left
                · intro w'
                  go_simp
                  with_reducible rfl
                rotate_left
                · simp only [Act.put, List.setIfInBounds_toArray, List.set_cons_zero, List.set_cons_succ, i64_w, i32_w]
                  rfl
                refine done_ (done_of HT_.out (by kernel_rfl)) ?_
                have p236 : 0 ≤ (x5_1 : Int) := of_decide_eq_true (by first | (with_reducible assumption) | assumption)
                have q236 : x5_1 < (l0.length : Int) := of_decide_eq_true (by first | (with_reducible assumption) | assumption)
                obtain ⟨ad236, A236_2, c236_2, e236, hx236_0, hx236_1, hx236_2, hl236_2, hi236_2⟩ := at_T52 HR0.out x5_1 p236 q236
                obtain rfl : ad234 = ad236 := (by injection e236)
                try (replace hx236_0 := (HB.out.cell (World.block_lt_of_cell? w _ hx236_0)).trans hx236_0)
                try (replace hx236_1 := (HB.out.cell (World.block_lt_of_cell? w _ hx236_1)).trans hx236_1)
                try (replace hx236_2 := (HB.out.cell (World.block_lt_of_cell? w _ hx236_2)).trans hx236_2)
                have HR236_2 := Aside0.mk hi236_2
                have HC236_2 := Aside0.mk hl236_2
                clear hi236_2 hl236_2
                replace p236 := eq_true p236
                replace q236 := eq_true q236
                have p237 : 0 ≤ (x5_1 : Int) := of_decide_eq_true (by first | (with_reducible assumption) | assumption)
                have q237 : x5_1 < (l0.length : Int) := of_decide_eq_true (by first | (with_reducible assumption) | assumption)
                obtain ⟨ad237, A237_2, c237_2, e237, hx237_0, hx237_1, hx237_2, hl237_2, hi237_2⟩ := at_T52 HR0.out x5_1 p237 q237
                obtain rfl : ad234 = ad237 := (by injection e237)
                try (replace hx237_0 := (HB.out.cell (World.block_lt_of_cell? w _ hx237_0)).trans hx237_0)
                try (replace hx237_1 := (HB.out.cell (World.block_lt_of_cell? w _ hx237_1)).trans hx237_1)
                try (replace hx237_2 := (HB.out.cell (World.block_lt_of_cell? w _ hx237_2)).trans hx237_2)
                have HR237_2 := Aside0.mk hi237_2
                have HC237_2 := Aside0.mk hl237_2
                clear hi237_2 hl237_2
                replace p237 := eq_true p237
                replace q237 := eq_true q237
                have ea_ := Option.some.inj (hx236_2.symm.trans hx237_2)
                injection ea_ with ea_ en_ ec_
                subst ea_
                subst ec_
                clear en_
                try (have eb_ := Option.some.inj (hx236_2.symm.trans ((HB.out.cell (World.block_lt_of_cell? w _ hw234_2)).trans hw234_2)); injection eb_ with ea_ en_ ec_; subst ea_; subst ec_; clear en_)
                try go_wp2_with (first | ((with_reducible refine gate_callee (f := 45) rfl ?_); refine goesL_ (some 37) rfl rfl Try.func45 (by kernel_rfl) rfl #[.slice A236_2 ((rd_T52 l0 x5_1).f2).length c236_2, .int .i64 (wrap64 ((wrap64 (x1_1 + 1)) + 1))] rfl (by (try simp only [List.map_toArray, List.map_cons, List.map_nil]); first | done | rfl | (simp only [List.length_drop, List.length_take]; rfl)) ?_; (with_reducible refine (laws_heldGenS.calls k1 _ _ ((rd_T52 l0 x5_1).f2) (wrap64 ((wrap64 (x1_1 + 1)) + 1)) t238 _ ?side1 ?side2 A8.out).mono ?_); (case side1 => repeat (first | exact (Kd.C_below HR237_2.out HB.out) | (with_reducible refine Kd.C_alloc ?_ _) | (with_reducible refine Kd.C_drewN ?_ _) | (with_reducible refine Kd.C_drew ?_))); (case side2 => exact HC237_2.out); rintro e w12 ⟨rfl, hb⟩; refine ⟨_, rfl, ?_⟩; have n0_ := Aside0.mk (below_step (by repeat (first | (with_reducible first | exact HB.out | apply below_alloc | apply pw_below_drewN | apply below_drew1) | exact HB.out)) hb); clear HB; have HB := n0_; clear n0_; (try clear hb); (try clear hb2); (try clear hk); (try clear hi)))
                go_ret
                exact ⟨by first | rfl | (simp [errW_none, errW_some] <;> rfl) | (simp [*, errW_none, errW_some] <;> rfl), by repeat (first | (with_reducible first | exact HB.out | apply below_alloc | apply pw_below_drewN | apply below_drew1) | exact HB.out)⟩
              · rw [if_neg c9] at H
                have c9b0 : decide (t238 < 0) = false := decide_eq_false c9
                clear c9
                have H' := Aside0.mk H
                clear H
                try go_wp2
                have n0_ := Aside0.mk (below_drew1 HB.out)
                clear HB
                have HB := n0_
                clear n0_
                have p234 : 0 ≤ (x5_1 : Int) := of_decide_eq_true (by first | (with_reducible assumption) | assumption)
                have q234 : x5_1 < (l0.length : Int) := of_decide_eq_true (by first | (with_reducible assumption) | assumption)
                obtain ⟨ad234, A234_2, c234_2, e234, hx234_0, hx234_1, hx234_2, hl234_2, hi234_2⟩ := at_T52 HR0.out x5_1 p234 q234
                have hw234_2 := hx234_2
                have hw234_1 := hx234_1
                have hw234_0 := hx234_0
                cases e234
                try (replace hx234_0 := (HB.out.cell (World.block_lt_of_cell? w _ hx234_0)).trans hx234_0)
                try (replace hx234_1 := (HB.out.cell (World.block_lt_of_cell? w _ hx234_1)).trans hx234_1)
                try (replace hx234_2 := (HB.out.cell (World.block_lt_of_cell? w _ hx234_2)).trans hx234_2)
                have HR234_2 := Aside0.mk hi234_2
                have HC234_2 := Aside0.mk hl234_2
                clear hi234_2 hl234_2
                replace p234 := eq_true p234
                replace q234 := eq_true q234
                refine start_ (n := 8) (S := fun w' => w'.cell? (ad234.add ((x5_1).toNat * 3)) = some (.string ((rd_T52 l0 x5_1).f0)) ∧ w'.cell? ⟨(ad234.add ((x5_1).toNat * 3)).block, (ad234.add ((x5_1).toNat * 3)).off + 1, none⟩ = some (.int .i64 ((rd_T52 l0 x5_1).f1)) ∧ w'.cell? ⟨(ad234.add ((x5_1).toNat * 3)).block, (ad234.add ((x5_1).toNat * 3)).off + 2, none⟩ = some (.slice A234_2 ((rd_T52 l0 x5_1).f2).length c234_2)) (ds := []) #[false, false, false, false, false, false, false, false] (by kernel_rfl) rfl rfl ⟨((HB.out.cell (World.block_lt_of_cell? w _ hw234_0)).trans hw234_0), ((HB.out.cell (World.block_lt_of_cell? w _ hw234_1)).trans hw234_1), ((HB.out.cell (World.block_lt_of_cell? w _ hw234_2)).trans hw234_2)⟩ (fun hHeld => ?_); refine with_tabW laws_heldProfileS.tab4 laws_heldProfileS.bits4 (fun HT_ HW_ => ?_)
                generalize wr.drew = w13 at HB HR234_2 hx234_0 hx234_1 hx234_2 hHeld ⊢
                refine pure_ (i := 0) (N := some 12) (v := ?_) (a' := ?_) #[true, false, false, false, false, false, false, false] rfl rfl (any_of HT_.out (by kernel_rfl)) (fun _ _ _ h => h) (Or.inl ⟨by rfl, ?_⟩) ?_ ?_
                rotate_left
                · intro w'
                  go_simp
                  with_reducible rfl
                rotate_left
                · simp only [Act.put, List.setIfInBounds_toArray, List.set_cons_zero, List.set_cons_succ, i64_w, i32_w]
                  rfl
                refine pure_ (i := 1) (N := some 13) (v := ?_) (a' := ?_) #[true, true, false, false, false, false, false, false] rfl rfl (any_of HT_.out (by kernel_rfl)) (fun _ _ _ h => h) (Or.inl ⟨by rfl, ?_⟩) ?_ ?_
                rotate_left
                · intro w'
                  go_simp
                  with_reducible rfl
                rotate_left
                · simp only [Act.put, List.setIfInBounds_toArray, List.set_cons_zero, List.set_cons_succ, i64_w, i32_w]
                  rfl
                refine pure_ (i := 2) (N := some 14) (v := ?_) (a' := ?_) #[true, true, true, false, false, false, false, false] rfl rfl (any_of HT_.out (by kernel_rfl)) (fun _ _ _ h => h) (Or.inl ⟨by rfl, ?_⟩) ?_ ?_
                rotate_left
                · intro w'
                  go_simp
                  with_reducible rfl
                rotate_left
                · simp only [Act.put, List.setIfInBounds_toArray, List.set_cons_zero, List.set_cons_succ, i64_w, i32_w]
                  rfl
                refine pure_ (i := 3) (N := some 15) (v := ?_) (a' := ?_) #[true, true, true, true, false, false, false, false] rfl rfl (any_of HT_.out (by kernel_rfl)) (fun _ _ _ h => h) (Or.inl ⟨by rfl, ?_⟩) ?_ ?_
                rotate_left
                · intro w'
                  go_simp
                  with_reducible rfl
                rotate_left
                · simp only [Act.put, List.setIfInBounds_toArray, List.set_cons_zero, List.set_cons_succ, i64_w, i32_w]
                  rfl
                refine pure_ (i := 5) (N := some 17) (v := ?_) (a' := ?_) #[true, true, true, true, false, true, false, false] rfl rfl (any_of HT_.out (by kernel_rfl)) (fun _ _ _ h => h) (Or.inl ⟨by rfl, ?_⟩) ?_ ?_
                rotate_left
                · intro w'
                  go_simp
                  with_reducible rfl
                rotate_left
                · simp only [Act.put, List.setIfInBounds_toArray, List.set_cons_zero, List.set_cons_succ, i64_w, i32_w]
                  rfl
                refine take_ (i := 4) (N := some 16) (v := ?_) (a' := ?_) #[true, true, true, true, true, true, false, false] rfl rfl (take_ofW HT_.out HW_.out (by kernel_rfl)) (fun _ _ _ h => h) (Or.inl ⟨by rfl, ?_⟩) hHeld ?_ ?_
                rotate_left
                · rintro w' ⟨s0, s1, s2⟩
                  go_simp
                  with_reducible rfl
                rotate_left
                · simp only [Act.put, List.setIfInBounds_toArray, List.set_cons_zero, List.set_cons_succ, i64_w, i32_w]
                  rfl
                refine one_ (i := 6) (N := some 18) #[true, true, true, true, true, true, true, false] rfl rfl (one_of HT_.out (by kernel_rfl)) (by decide) (fun K hK => ?_)
                refine goes_ Try.func43 (by kernel_rfl) rfl #[.int .i64 x1_1] (by rfl) rfl rfl (by (try simp only [List.map_toArray, List.map_cons, List.map_nil]); first | done | rfl | (simp only [List.length_drop, List.length_take]; rfl)) ?_
                with_reducible refine (laws_markText.calls k1 x1_1 t235 _ A5.out).mono ?_
                rintro e w14 ⟨rfl, hb⟩
                refine ⟨_, rfl, ?_⟩
                have n0_ := Aside0.mk (below_step (by repeat (first | (with_reducible first | exact HB.out | apply below_alloc | apply pw_below_drewN | apply below_drew1) | exact HB.out)) hb)
                clear HB
                have HB := n0_
                clear n0_
                (try clear hb)
                (try clear hb2)
                (try clear hk)
                (try clear hi)
                refine hK.out _ _ ⟨((HB.out.cell (World.block_lt_of_cell? w _ hw234_0)).trans hw234_0), ((HB.out.cell (World.block_lt_of_cell? w _ hw234_1)).trans hw234_1), ((HB.out.cell (World.block_lt_of_cell? w _ hw234_2)).trans hw234_2)⟩ (fun hHeld => ?_)
                clear hK K
                refine norm_ (a' := ?_) ?_ ?_
                rotate_left
                · show Act.put _ (some 18) _ = _
                  simp only [Act.put, List.setIfInBounds_toArray, List.set_cons_zero, List.set_cons_succ, i64_w, i32_w]
                  rfl
                refine pure_ (i := 7) (N := some 19) (v := ?_) (a' := ?_) #[true, true, true, true, true, true, true, true] rfl rfl (any_of HT_.out (by kernel_rfl)) (fun _ _ _ h => h) (Or.inl ⟨by rfl, ?_⟩) ?_ ?_
                rotate_left
                · intro w'
                  go_simp
                  with_reducible rfl
                rotate_left
                · simp only [Act.put, List.setIfInBounds_toArray, List.set_cons_zero, List.set_cons_succ, i64_w, i32_w]
                  rfl
                refine done_ (done_of HT_.out (by kernel_rfl)) ?_
                have p236 : 0 ≤ (x5_1 : Int) := of_decide_eq_true (by first | (with_reducible assumption) | assumption)
                have q236 : x5_1 < (l0.length : Int) := of_decide_eq_true (by first | (with_reducible assumption) | assumption)
                obtain ⟨ad236, A236_2, c236_2, e236, hx236_0, hx236_1, hx236_2, hl236_2, hi236_2⟩ := at_T52 HR0.out x5_1 p236 q236
                obtain rfl : ad234 = ad236 := (by injection e236)
                try (replace hx236_0 := (HB.out.cell (World.block_lt_of_cell? w _ hx236_0)).trans hx236_0)
                try (replace hx236_1 := (HB.out.cell (World.block_lt_of_cell? w _ hx236_1)).trans hx236_1)
                try (replace hx236_2 := (HB.out.cell (World.block_lt_of_cell? w _ hx236_2)).trans hx236_2)
                have HR236_2 := Aside0.mk hi236_2
                have HC236_2 := Aside0.mk hl236_2
                clear hi236_2 hl236_2
                replace p236 := eq_true p236
                replace q236 := eq_true q236
                have p237 : 0 ≤ (x5_1 : Int) := of_decide_eq_true (by first | (with_reducible assumption) | assumption)
                have q237 : x5_1 < (l0.length : Int) := of_decide_eq_true (by first | (with_reducible assumption) | assumption)
                obtain ⟨ad237, A237_2, c237_2, e237, hx237_0, hx237_1, hx237_2, hl237_2, hi237_2⟩ := at_T52 HR0.out x5_1 p237 q237
                obtain rfl : ad234 = ad237 := (by injection e237)
                try (replace hx237_0 := (HB.out.cell (World.block_lt_of_cell? w _ hx237_0)).trans hx237_0)
                try (replace hx237_1 := (HB.out.cell (World.block_lt_of_cell? w _ hx237_1)).trans hx237_1)
                try (replace hx237_2 := (HB.out.cell (World.block_lt_of_cell? w _ hx237_2)).trans hx237_2)
                have HR237_2 := Aside0.mk hi237_2
                have HC237_2 := Aside0.mk hl237_2
                clear hi237_2 hl237_2
                replace p237 := eq_true p237
                replace q237 := eq_true q237
                have ea_ := Option.some.inj (hx236_2.symm.trans hx237_2)
                injection ea_ with ea_ en_ ec_
                subst ea_
                subst ec_
                clear en_
                try (have eb_ := Option.some.inj (hx236_2.symm.trans ((HB.out.cell (World.block_lt_of_cell? w _ hw234_2)).trans hw234_2)); injection eb_ with ea_ en_ ec_; subst ea_; subst ec_; clear en_)
                try go_wp2_with (first | ((with_reducible refine gate_callee (f := 45) rfl ?_); refine goesL_ (some 37) rfl rfl Try.func45 (by kernel_rfl) rfl #[.slice A236_2 ((rd_T52 l0 x5_1).f2).length c236_2, .int .i64 (wrap64 ((wrap64 (x1_1 + 1)) + 1))] rfl (by (try simp only [List.map_toArray, List.map_cons, List.map_nil]); first | done | rfl | (simp only [List.length_drop, List.length_take]; rfl)) ?_; (with_reducible refine (laws_heldGenS.calls k1 _ _ ((rd_T52 l0 x5_1).f2) (wrap64 ((wrap64 (x1_1 + 1)) + 1)) t238 _ ?side1 ?side2 A8.out).mono ?_); (case side1 => repeat (first | exact (Kd.C_below HR237_2.out HB.out) | (with_reducible refine Kd.C_alloc ?_ _) | (with_reducible refine Kd.C_drewN ?_ _) | (with_reducible refine Kd.C_drew ?_))); (case side2 => exact HC237_2.out); rintro e w15 ⟨rfl, hb⟩; refine ⟨_, rfl, ?_⟩; have n0_ := Aside0.mk (below_step (by repeat (first | (with_reducible first | exact HB.out | apply below_alloc | apply pw_below_drewN | apply below_drew1) | exact HB.out)) hb); clear HB; have HB := n0_; clear n0_; (try clear hb); (try clear hb2); (try clear hk); (try clear hi)))
                go_roundg k1
                case measure => have := HK1.out; omega
                case rel => exact ⟨(t238), (wrap64 (x5_1 + 1)), (by first | rfl | (simp; done) | (simp [*]; done)), (by first | rfl | (simp; done) | (simp [*]; done)), H', ⟨by have := HK1.out; omega⟩, ⟨by repeat (first | (with_reducible first | exact HB.out | apply below_alloc | apply pw_below_drewN | apply below_drew1) | exact HB.out)⟩⟩
            · rw [if_neg c7] at H
              have c7b0 : (((rd_T52 l0 x5_1).f1) == (wrap64 (x1_1 + 1))) = false := beq_eq_false_iff_ne.mpr c7
              have c7b1 : (((rd_T52 l0 x5_1).f1) != (wrap64 (x1_1 + 1))) = true := bne_iff_ne.mpr c7
              obtain rfl := Option.some.inj H
              try go_wp2
              have n0_ := Aside0.mk (below_drew1 HB.out)
              clear HB
              have HB := n0_
              clear n0_
              have p234 : 0 ≤ (x5_1 : Int) := of_decide_eq_true (by first | (with_reducible assumption) | assumption)
              have q234 : x5_1 < (l0.length : Int) := of_decide_eq_true (by first | (with_reducible assumption) | assumption)
              obtain ⟨ad234, A234_2, c234_2, e234, hx234_0, hx234_1, hx234_2, hl234_2, hi234_2⟩ := at_T52 HR0.out x5_1 p234 q234
              have hw234_2 := hx234_2
              have hw234_1 := hx234_1
              have hw234_0 := hx234_0
              cases e234
              try (replace hx234_0 := (HB.out.cell (World.block_lt_of_cell? w _ hx234_0)).trans hx234_0)
              try (replace hx234_1 := (HB.out.cell (World.block_lt_of_cell? w _ hx234_1)).trans hx234_1)
              try (replace hx234_2 := (HB.out.cell (World.block_lt_of_cell? w _ hx234_2)).trans hx234_2)
              have HR234_2 := Aside0.mk hi234_2
              have HC234_2 := Aside0.mk hl234_2
              clear hi234_2 hl234_2
              replace p234 := eq_true p234
              replace q234 := eq_true q234
              refine start_ (n := 8) (S := fun w' => w'.cell? (ad234.add ((x5_1).toNat * 3)) = some (.string ((rd_T52 l0 x5_1).f0)) ∧ w'.cell? ⟨(ad234.add ((x5_1).toNat * 3)).block, (ad234.add ((x5_1).toNat * 3)).off + 1, none⟩ = some (.int .i64 ((rd_T52 l0 x5_1).f1)) ∧ w'.cell? ⟨(ad234.add ((x5_1).toNat * 3)).block, (ad234.add ((x5_1).toNat * 3)).off + 2, none⟩ = some (.slice A234_2 ((rd_T52 l0 x5_1).f2).length c234_2)) (ds := []) #[false, false, false, false, false, false, false, false] (by kernel_rfl) rfl rfl ⟨((HB.out.cell (World.block_lt_of_cell? w _ hw234_0)).trans hw234_0), ((HB.out.cell (World.block_lt_of_cell? w _ hw234_1)).trans hw234_1), ((HB.out.cell (World.block_lt_of_cell? w _ hw234_2)).trans hw234_2)⟩ (fun hHeld => ?_); refine with_tabW laws_heldProfileS.tab4 laws_heldProfileS.bits4 (fun HT_ HW_ => ?_)
              generalize wr.drew = w16 at HB HR234_2 hx234_0 hx234_1 hx234_2 hHeld ⊢
              refine pure_ (i := 0) (N := some 12) (v := ?_) (a' := ?_) #[true, false, false, false, false, false, false, false] rfl rfl (any_of HT_.out (by kernel_rfl)) (fun _ _ _ h => h) (Or.inl ⟨by rfl, ?_⟩) ?_ ?_
              rotate_left
              · intro w'
                go_simp
                with_reducible rfl
              rotate_left
              · simp only [Act.put, List.setIfInBounds_toArray, List.set_cons_zero, List.set_cons_succ, i64_w, i32_w]
                rfl
              refine pure_ (i := 1) (N := some 13) (v := ?_) (a' := ?_) #[true, true, false, false, false, false, false, false] rfl rfl (any_of HT_.out (by kernel_rfl)) (fun _ _ _ h => h) (Or.inl ⟨by rfl, ?_⟩) ?_ ?_
              rotate_left
              · intro w'
                go_simp
                with_reducible rfl
              rotate_left
              · simp only [Act.put, List.setIfInBounds_toArray, List.set_cons_zero, List.set_cons_succ, i64_w, i32_w]
                rfl
              refine pure_ (i := 2) (N := some 14) (v := ?_) (a' := ?_) #[true, true, true, false, false, false, false, false] rfl rfl (any_of HT_.out (by kernel_rfl)) (fun _ _ _ h => h) (Or.inl ⟨by rfl, ?_⟩) ?_ ?_
              rotate_left
              · intro w'
                go_simp
                with_reducible rfl
              rotate_left
              · simp only [Act.put, List.setIfInBounds_toArray, List.set_cons_zero, List.set_cons_succ, i64_w, i32_w]
                rfl
              refine pure_ (i := 3) (N := some 15) (v := ?_) (a' := ?_) #[true, true, true, true, false, false, false, false] rfl rfl (any_of HT_.out (by kernel_rfl)) (fun _ _ _ h => h) (Or.inl ⟨by rfl, ?_⟩) ?_ ?_
              rotate_left
              · intro w'
                go_simp
                with_reducible rfl
              rotate_left
              · simp only [Act.put, List.setIfInBounds_toArray, List.set_cons_zero, List.set_cons_succ, i64_w, i32_w]
                rfl
              refine pure_ (i := 5) (N := some 17) (v := ?_) (a' := ?_) #[true, true, true, true, false, true, false, false] rfl rfl (any_of HT_.out (by kernel_rfl)) (fun _ _ _ h => h) (Or.inl ⟨by rfl, ?_⟩) ?_ ?_
              rotate_left
              · intro w'
                go_simp
                with_reducible rfl
              rotate_left
              · simp only [Act.put, List.setIfInBounds_toArray, List.set_cons_zero, List.set_cons_succ, i64_w, i32_w]
                rfl
              refine take_ (i := 4) (N := some 16) (v := ?_) (a' := ?_) #[true, true, true, true, true, true, false, false] rfl rfl (take_ofW HT_.out HW_.out (by kernel_rfl)) (fun _ _ _ h => h) (Or.inl ⟨by rfl, ?_⟩) hHeld ?_ ?_
              rotate_left
              · rintro w' ⟨s0, s1, s2⟩
                go_simp
                with_reducible rfl
              rotate_left
              · simp only [Act.put, List.setIfInBounds_toArray, List.set_cons_zero, List.set_cons_succ, i64_w, i32_w]
                rfl
              refine one_ (i := 6) (N := some 18) #[true, true, true, true, true, true, true, false] rfl rfl (one_of HT_.out (by kernel_rfl)) (by decide) (fun K hK => ?_)
              refine goes_ Try.func43 (by kernel_rfl) rfl #[.int .i64 x1_1] (by rfl) rfl rfl (by (try simp only [List.map_toArray, List.map_cons, List.map_nil]); first | done | rfl | (simp only [List.length_drop, List.length_take]; rfl)) ?_
              with_reducible refine (laws_markText.calls k1 x1_1 t235 _ A5.out).mono ?_
              rintro e w17 ⟨rfl, hb⟩
              refine ⟨_, rfl, ?_⟩
              have n0_ := Aside0.mk (below_step (by repeat (first | (with_reducible first | exact HB.out | apply below_alloc | apply pw_below_drewN | apply below_drew1) | exact HB.out)) hb)
              clear HB
              have HB := n0_
              clear n0_
              (try clear hb)
              (try clear hb2)
              (try clear hk)
              (try clear hi)
              refine hK.out _ _ ⟨((HB.out.cell (World.block_lt_of_cell? w _ hw234_0)).trans hw234_0), ((HB.out.cell (World.block_lt_of_cell? w _ hw234_1)).trans hw234_1), ((HB.out.cell (World.block_lt_of_cell? w _ hw234_2)).trans hw234_2)⟩ (fun hHeld => ?_)
              clear hK K
              refine norm_ (a' := ?_) ?_ ?_
              rotate_left
              · show Act.put _ (some 18) _ = _
                simp only [Act.put, List.setIfInBounds_toArray, List.set_cons_zero, List.set_cons_succ, i64_w, i32_w]
                rfl
              refine pure_ (i := 7) (N := some 19) (v := ?_) (a' := ?_) #[true, true, true, true, true, true, true, true] rfl rfl (any_of HT_.out (by kernel_rfl)) (fun _ _ _ h => h) (Or.inl ⟨by rfl, ?_⟩) ?_ ?_
              rotate_left
              · intro w'
                go_simp
                with_reducible rfl
              rotate_left
              · simp only [Act.put, List.setIfInBounds_toArray, List.set_cons_zero, List.set_cons_succ, i64_w, i32_w]
                rfl
              refine done_ (done_of HT_.out (by kernel_rfl)) ?_
              have p236 : 0 ≤ (x5_1 : Int) := of_decide_eq_true (by first | (with_reducible assumption) | assumption)
              have q236 : x5_1 < (l0.length : Int) := of_decide_eq_true (by first | (with_reducible assumption) | assumption)
              obtain ⟨ad236, A236_2, c236_2, e236, hx236_0, hx236_1, hx236_2, hl236_2, hi236_2⟩ := at_T52 HR0.out x5_1 p236 q236
              obtain rfl : ad234 = ad236 := (by injection e236)
              try (replace hx236_0 := (HB.out.cell (World.block_lt_of_cell? w _ hx236_0)).trans hx236_0)
              try (replace hx236_1 := (HB.out.cell (World.block_lt_of_cell? w _ hx236_1)).trans hx236_1)
              try (replace hx236_2 := (HB.out.cell (World.block_lt_of_cell? w _ hx236_2)).trans hx236_2)
              have HR236_2 := Aside0.mk hi236_2
              have HC236_2 := Aside0.mk hl236_2
              clear hi236_2 hl236_2
              replace p236 := eq_true p236
              replace q236 := eq_true q236
              try go_wp2
              go_ret
              exact ⟨by first | rfl | (simp [errW_none, errW_some] <;> rfl) | (simp [*, errW_none, errW_some] <;> rfl), by repeat (first | (with_reducible first | exact HB.out | apply below_alloc | apply pw_below_drewN | apply below_drew1) | exact HB.out)⟩
          · rw [if_neg c6] at H
            have c6b0 : (((rd_T52 l0 x5_1).f0).toList == t235.toList) = false := beq_eq_false_iff_ne.mpr c6
            have c6b1 : (((rd_T52 l0 x5_1).f0).toList != t235.toList) = true := bne_iff_ne.mpr c6
            obtain rfl := Option.some.inj H
            try go_wp2
            have n0_ := Aside0.mk (below_drew1 HB.out)
            clear HB
            have HB := n0_
            clear n0_
            have p234 : 0 ≤ (x5_1 : Int) := of_decide_eq_true (by first | (with_reducible assumption) | assumption)
            have q234 : x5_1 < (l0.length : Int) := of_decide_eq_true (by first | (with_reducible assumption) | assumption)
            obtain ⟨ad234, A234_2, c234_2, e234, hx234_0, hx234_1, hx234_2, hl234_2, hi234_2⟩ := at_T52 HR0.out x5_1 p234 q234
            have hw234_2 := hx234_2
            have hw234_1 := hx234_1
            have hw234_0 := hx234_0
            cases e234
            try (replace hx234_0 := (HB.out.cell (World.block_lt_of_cell? w _ hx234_0)).trans hx234_0)
            try (replace hx234_1 := (HB.out.cell (World.block_lt_of_cell? w _ hx234_1)).trans hx234_1)
            try (replace hx234_2 := (HB.out.cell (World.block_lt_of_cell? w _ hx234_2)).trans hx234_2)
            have HR234_2 := Aside0.mk hi234_2
            have HC234_2 := Aside0.mk hl234_2
            clear hi234_2 hl234_2
            replace p234 := eq_true p234
            replace q234 := eq_true q234
            refine start_ (n := 8) (S := fun w' => w'.cell? (ad234.add ((x5_1).toNat * 3)) = some (.string ((rd_T52 l0 x5_1).f0)) ∧ w'.cell? ⟨(ad234.add ((x5_1).toNat * 3)).block, (ad234.add ((x5_1).toNat * 3)).off + 1, none⟩ = some (.int .i64 ((rd_T52 l0 x5_1).f1)) ∧ w'.cell? ⟨(ad234.add ((x5_1).toNat * 3)).block, (ad234.add ((x5_1).toNat * 3)).off + 2, none⟩ = some (.slice A234_2 ((rd_T52 l0 x5_1).f2).length c234_2)) (ds := []) #[false, false, false, false, false, false, false, false] (by kernel_rfl) rfl rfl ⟨((HB.out.cell (World.block_lt_of_cell? w _ hw234_0)).trans hw234_0), ((HB.out.cell (World.block_lt_of_cell? w _ hw234_1)).trans hw234_1), ((HB.out.cell (World.block_lt_of_cell? w _ hw234_2)).trans hw234_2)⟩ (fun hHeld => ?_); refine with_tabW laws_heldProfileS.tab4 laws_heldProfileS.bits4 (fun HT_ HW_ => ?_)
            generalize wr.drew = w18 at HB HR234_2 hx234_0 hx234_1 hx234_2 hHeld ⊢
            refine pure_ (i := 0) (N := some 12) (v := ?_) (a' := ?_) #[true, false, false, false, false, false, false, false] rfl rfl (any_of HT_.out (by kernel_rfl)) (fun _ _ _ h => h) (Or.inl ⟨by rfl, ?_⟩) ?_ ?_
            rotate_left
            · intro w'
              go_simp
              with_reducible rfl
            rotate_left
            · simp only [Act.put, List.setIfInBounds_toArray, List.set_cons_zero, List.set_cons_succ, i64_w, i32_w]
              rfl
            refine pure_ (i := 1) (N := some 13) (v := ?_) (a' := ?_) #[true, true, false, false, false, false, false, false] rfl rfl (any_of HT_.out (by kernel_rfl)) (fun _ _ _ h => h) (Or.inl ⟨by rfl, ?_⟩) ?_ ?_
            rotate_left
            · intro w'
              go_simp
              with_reducible rfl
            rotate_left
            · simp only [Act.put, List.setIfInBounds_toArray, List.set_cons_zero, List.set_cons_succ, i64_w, i32_w]
              rfl
            refine pure_ (i := 2) (N := some 14) (v := ?_) (a' := ?_) #[true, true, true, false, false, false, false, false] rfl rfl (any_of HT_.out (by kernel_rfl)) (fun _ _ _ h => h) (Or.inl ⟨by rfl, ?_⟩) ?_ ?_
            rotate_left
            · intro w'
              go_simp
              with_reducible rfl
            rotate_left
            · simp only [Act.put, List.setIfInBounds_toArray, List.set_cons_zero, List.set_cons_succ, i64_w, i32_w]
              rfl
            refine pure_ (i := 3) (N := some 15) (v := ?_) (a' := ?_) #[true, true, true, true, false, false, false, false] rfl rfl (any_of HT_.out (by kernel_rfl)) (fun _ _ _ h => h) (Or.inl ⟨by rfl, ?_⟩) ?_ ?_
            rotate_left
            · intro w'
              go_simp
              with_reducible rfl
            rotate_left
            · simp only [Act.put, List.setIfInBounds_toArray, List.set_cons_zero, List.set_cons_succ, i64_w, i32_w]
              rfl
            refine pure_ (i := 5) (N := some 17) (v := ?_) (a' := ?_) #[true, true, true, true, false, true, false, false] rfl rfl (any_of HT_.out (by kernel_rfl)) (fun _ _ _ h => h) (Or.inl ⟨by rfl, ?_⟩) ?_ ?_
            rotate_left
            · intro w'
              go_simp
              with_reducible rfl
            rotate_left
            · simp only [Act.put, List.setIfInBounds_toArray, List.set_cons_zero, List.set_cons_succ, i64_w, i32_w]
              rfl
            refine take_ (i := 4) (N := some 16) (v := ?_) (a' := ?_) #[true, true, true, true, true, true, false, false] rfl rfl (take_ofW HT_.out HW_.out (by kernel_rfl)) (fun _ _ _ h => h) (Or.inl ⟨by rfl, ?_⟩) hHeld ?_ ?_
            rotate_left
            · rintro w' ⟨s0, s1, s2⟩
              go_simp
              with_reducible rfl
            rotate_left
            · simp only [Act.put, List.setIfInBounds_toArray, List.set_cons_zero, List.set_cons_succ, i64_w, i32_w]
              rfl
            refine one_ (i := 6) (N := some 18) #[true, true, true, true, true, true, true, false] rfl rfl (one_of HT_.out (by kernel_rfl)) (by decide) (fun K hK => ?_)
            refine goes_ Try.func43 (by kernel_rfl) rfl #[.int .i64 x1_1] (by rfl) rfl rfl (by (try simp only [List.map_toArray, List.map_cons, List.map_nil]); first | done | rfl | (simp only [List.length_drop, List.length_take]; rfl)) ?_
            with_reducible refine (laws_markText.calls k1 x1_1 t235 _ A5.out).mono ?_
            rintro e w19 ⟨rfl, hb⟩
            refine ⟨_, rfl, ?_⟩
            have n0_ := Aside0.mk (below_step (by repeat (first | (with_reducible first | exact HB.out | apply below_alloc | apply pw_below_drewN | apply below_drew1) | exact HB.out)) hb)
            clear HB
            have HB := n0_
            clear n0_
            (try clear hb)
            (try clear hb2)
            (try clear hk)
            (try clear hi)
            refine hK.out _ _ ⟨((HB.out.cell (World.block_lt_of_cell? w _ hw234_0)).trans hw234_0), ((HB.out.cell (World.block_lt_of_cell? w _ hw234_1)).trans hw234_1), ((HB.out.cell (World.block_lt_of_cell? w _ hw234_2)).trans hw234_2)⟩ (fun hHeld => ?_)
            clear hK K
            refine norm_ (a' := ?_) ?_ ?_
            rotate_left
            · show Act.put _ (some 18) _ = _
              simp only [Act.put, List.setIfInBounds_toArray, List.set_cons_zero, List.set_cons_succ, i64_w, i32_w]
              rfl
            refine pure_ (i := 7) (N := some 19) (v := ?_) (a' := ?_) #[true, true, true, true, true, true, true, true] rfl rfl (any_of HT_.out (by kernel_rfl)) (fun _ _ _ h => h) (Or.inl ⟨by rfl, ?_⟩) ?_ ?_
            rotate_left
            · intro w'
              go_simp
              with_reducible rfl
            rotate_left
            · simp only [Act.put, List.setIfInBounds_toArray, List.set_cons_zero, List.set_cons_succ, i64_w, i32_w]
              rfl
            refine done_ (done_of HT_.out (by kernel_rfl)) ?_
            try go_wp2
            go_ret
            exact ⟨by first | rfl | (simp [errW_none, errW_some] <;> rfl) | (simp [*, errW_none, errW_some] <;> rfl), by repeat (first | (with_reducible first | exact HB.out | apply below_alloc | apply pw_below_drewN | apply below_drew1) | exact HB.out)⟩
        · rw [if_neg c4] at H
          exact absurd H (by simp)
      · rw [if_neg c3] at H
        have c3b0 : decide (x5_1 < (l0.length : Int)) = false := decide_eq_false c3
        clear c3
        obtain rfl := Option.some.inj H
        go_wp2
        go_ret
        exact ⟨by first | rfl | (simp [errW_none, errW_some] <;> rfl) | (simp [*, errW_none, errW_some] <;> rfl), by repeat (first | (with_reducible first | exact HB.out | apply below_alloc | apply pw_below_drewN | apply below_drew1) | exact HB.out)⟩

/-! ### laws_FnExactRollback: function 5 -/
def laws_FnExactRollback.f (k : Nat) (l0 : List (S49)) (a1 : ByteArray) : Option Bool := if (a1.size : Int) > 1048576 then some true else ((laws_szProfileS.f k l0 1048576).bind fun t0 => (if t0 < 0 then some true else ((laws_toProfileS.f k l0).bind fun a0 => ((spec_Rollback.f k a0 a1).bind fun ⟨w0, w1⟩ => ((laws_toProfileS.f k l0).bind fun x0 => ((impl_Rollback.f k x0 a1).bind fun ⟨g0, g1⟩ => ((laws_eqProfileS.f k g0 w0).bind fun t1 => (if t1 = true then (if g1 = w1 then ((laws_toProfileS.f k l0).bind fun b0 => ((laws_eqProfileS.f k x0 b0).bind fun t2 => (if t2 = true then ((laws_markProfileS.f k x0 1).bind fun ⟨k1, z0⟩ => (if k1 < 0 then none else ((laws_eqProfileS.f k g0 w0).bind fun s1 => (if s1 = true then ((laws_markProfileS.f k g0 1).bind fun ⟨m1, e0⟩ => ((laws_heldProfileS.f k e0 1).bind fun q1 => (if q1 < 0 then none else (if m1 = q1 then ((laws_toProfileS.f k l0).bind fun c0 => ((impl_Rollback.f k c0 a1).bind fun ⟨h0, h1⟩ => ((laws_eqProfileS.f k h0 w0).bind fun s2 => (if s2 = true then (if g1 = h1 then ((laws_heldProfileS.f k e0 1).bind fun q2 => (if m1 = q2 then (some true) else none)) else none) else none)))) else none)))) else none)))) else none))) else none) else none))))))))
set_option maxHeartbeats 8000000 in
set_option maxRecDepth 100000 in
theorem laws_FnExactRollback.calls (k : Nat) (Al0 : Option Addr) (cl0 : Nat) (l0 : List (S49)) (a1 : ByteArray) (r : Bool) (w : World) (hrl0 : Kd.C k49 w Al0 l0.length l0) (hcl0 : l0.length ≤ cl0) (h : laws_FnExactRollback.f k l0 a1 = some r) :
    Calls Try.prog 5 #[.slice Al0 l0.length cl0, .string a1] w fun e w' => e = .returned (.bool r) ∧ Below w.heap.size w w' := by
  have HR_l0 := Aside0.mk hrl0
  have HC_l0 := Aside0.mk hcl0
  clear hrl0 hcl0
  have HB := Aside0.mk (Below.refl w.heap.size w)
  unfold laws_FnExactRollback.f at h
  by_cases C0 : (a1.size : Int) > 1048576
  · rw [if_pos C0] at h
    have C0a : decide (1048576 < (a1.size : Int)) = true := decide_eq_true C0
    have C0b : decide (1048576 < a1.size) = true := decide_eq_true (by omega)
    clear C0
    obtain rfl := Option.some.inj h
    clear h
    go_enter Try.func5, Try.ntmps5
    go_wp2
    go_ret
    exact ⟨rfl, by repeat (first | (with_reducible first | exact HB.out | apply below_alloc | apply pw_below_drewN | apply below_drew1) | exact HB.out)⟩
  rw [if_neg C0] at h
  have C0a : decide (1048576 < (a1.size : Int)) = false := decide_eq_false C0
  have C0b : decide (1048576 < a1.size) = false := decide_eq_false (by omega)
  clear C0
  replace h := Option.bind_eq_some_iff.mp h
  obtain ⟨t0, EE, h⟩ := h
  have E1 := Aside0.mk EE
  clear EE
  try dsimp only at h
  by_cases C2 : t0 < 0
  · rw [if_pos C2] at h
    have C2a : decide (t0 < 0) = true := decide_eq_true C2
    clear C2
    obtain rfl := Option.some.inj h
    clear h
    go_enter Try.func5, Try.ntmps5
    go_wp2_with (first | (go_at_call 9; (with_reducible refine (laws_szProfileS.calls (hr0 := (Kd.C_below HR_l0.out (by repeat (first | (with_reducible first | exact HB.out | apply below_alloc | apply pw_below_drewN | apply below_drew1) | exact HB.out)))) (hc0 := HC_l0.out) (h := E1.out)).mono ?_); rintro e w1 ⟨rfl, hd⟩; (first | have hb := below_of hd | have hb := hd); clear hd; have Z1 := Aside0.mk (show w.heap.size ≤ w1.heap.size from hb.size); have HB' := Aside0.mk (below_step (by repeat (first | (with_reducible first | exact HB.out | apply below_alloc | apply pw_below_drewN | apply below_drew1) | exact HB.out)) hb); clear HB; have HB := HB'; clear HB'; clear E1))
    go_ret
    exact ⟨rfl, by repeat (first | (with_reducible first | exact HB.out | apply below_alloc | apply pw_below_drewN | apply below_drew1) | exact HB.out)⟩
  rw [if_neg C2] at h
  have C2a : decide (t0 < 0) = false := decide_eq_false C2
  clear C2
  replace h := Option.bind_eq_some_iff.mp h
  obtain ⟨a0, EE, h⟩ := h
  have E3 := Aside0.mk EE
  clear EE
  try dsimp only at h
  replace h := Option.bind_eq_some_iff.mp h
  obtain ⟨⟨w0, w1⟩, EE, h⟩ := h
  have E4 := Aside0.mk EE
  clear EE
  try dsimp only at h
  replace h := Option.bind_eq_some_iff.mp h
  obtain ⟨x0, EE, h⟩ := h
  have E5 := Aside0.mk EE
  clear EE
  try dsimp only at h
  replace h := Option.bind_eq_some_iff.mp h
  obtain ⟨⟨g0, g1⟩, EE, h⟩ := h
  have E6 := Aside0.mk EE
  clear EE
  try dsimp only at h
  replace h := Option.bind_eq_some_iff.mp h
  obtain ⟨t1, EE, h⟩ := h
  have E7 := Aside0.mk EE
  clear EE
  try dsimp only at h
  by_cases C8 : ¬ (t1 = true)
  · rw [if_neg C8] at h; exact absurd h (by simp)
  replace C8 := Classical.not_not.mp C8
  rw [if_pos C8] at h
  subst C8
  by_cases C9 : ¬ (g1 = w1)
  · rw [if_neg C9] at h; exact absurd h (by simp)
  replace C9 := Classical.not_not.mp C9
  rw [if_pos C9] at h
  subst C9
  have C9a : (g1 != g1) = false := by simp
  have C9b : (g1 == g1) = true := by simp
  replace h := Option.bind_eq_some_iff.mp h
  obtain ⟨b0, EE, h⟩ := h
  have E10 := Aside0.mk EE
  clear EE
  try dsimp only at h
  replace h := Option.bind_eq_some_iff.mp h
  obtain ⟨t2, EE, h⟩ := h
  have E11 := Aside0.mk EE
  clear EE
  try dsimp only at h
  by_cases C12 : ¬ (t2 = true)
  · rw [if_neg C12] at h; exact absurd h (by simp)
  replace C12 := Classical.not_not.mp C12
  rw [if_pos C12] at h
  subst C12
  replace h := Option.bind_eq_some_iff.mp h
  obtain ⟨⟨k1, z0⟩, EE, h⟩ := h
  have E13 := Aside0.mk EE
  clear EE
  try dsimp only at h
  by_cases C14 : k1 < 0
  · rw [if_pos C14] at h; exact absurd h (by simp)
  rw [if_neg C14] at h
  have C14a : decide (k1 < 0) = false := decide_eq_false C14
  clear C14
  replace h := Option.bind_eq_some_iff.mp h
  obtain ⟨s1, EE, h⟩ := h
  have E15 := Aside0.mk EE
  clear EE
  try dsimp only at h
  by_cases C16 : ¬ (s1 = true)
  · rw [if_neg C16] at h; exact absurd h (by simp)
  replace C16 := Classical.not_not.mp C16
  rw [if_pos C16] at h
  subst C16
  replace h := Option.bind_eq_some_iff.mp h
  obtain ⟨⟨m1, e0⟩, EE, h⟩ := h
  have E17 := Aside0.mk EE
  clear EE
  try dsimp only at h
  replace h := Option.bind_eq_some_iff.mp h
  obtain ⟨q1, EE, h⟩ := h
  have E18 := Aside0.mk EE
  clear EE
  try dsimp only at h
  by_cases C19 : q1 < 0
  · rw [if_pos C19] at h; exact absurd h (by simp)
  rw [if_neg C19] at h
  have C19a : decide (q1 < 0) = false := decide_eq_false C19
  clear C19
  by_cases C20 : ¬ (m1 = q1)
  · rw [if_neg C20] at h; exact absurd h (by simp)
  replace C20 := Classical.not_not.mp C20
  rw [if_pos C20] at h
  subst C20
  have C20a : (m1 != m1) = false := by simp
  have C20b : (m1 == m1) = true := by simp
  replace h := Option.bind_eq_some_iff.mp h
  obtain ⟨c0, EE, h⟩ := h
  have E21 := Aside0.mk EE
  clear EE
  try dsimp only at h
  replace h := Option.bind_eq_some_iff.mp h
  obtain ⟨⟨h0, h1⟩, EE, h⟩ := h
  have E22 := Aside0.mk EE
  clear EE
  try dsimp only at h
  replace h := Option.bind_eq_some_iff.mp h
  obtain ⟨s2, EE, h⟩ := h
  have E23 := Aside0.mk EE
  clear EE
  try dsimp only at h
  by_cases C24 : ¬ (s2 = true)
  · rw [if_neg C24] at h; exact absurd h (by simp)
  replace C24 := Classical.not_not.mp C24
  rw [if_pos C24] at h
  subst C24
  by_cases C25 : ¬ (g1 = h1)
  · rw [if_neg C25] at h; exact absurd h (by simp)
  replace C25 := Classical.not_not.mp C25
  rw [if_pos C25] at h
  subst C25
  have C25a : (g1 != g1) = false := by simp
  have C25b : (g1 == g1) = true := by simp
  replace h := Option.bind_eq_some_iff.mp h
  obtain ⟨q2, EE, h⟩ := h
  have E26 := Aside0.mk EE
  clear EE
  try dsimp only at h
  by_cases C27 : ¬ (m1 = q2)
  · rw [if_neg C27] at h; exact absurd h (by simp)
  replace C27 := Classical.not_not.mp C27
  rw [if_pos C27] at h
  subst C27
  have C27a : (m1 != m1) = false := by simp
  have C27b : (m1 == m1) = true := by simp
  obtain rfl := Option.some.inj h
  clear h
  go_enter Try.func5, Try.ntmps5
  go_wp2_with (first | (go_at_call 9; (with_reducible refine (laws_szProfileS.calls (hr0 := (Kd.C_below HR_l0.out (by repeat (first | (with_reducible first | exact HB.out | apply below_alloc | apply pw_below_drewN | apply below_drew1) | exact HB.out)))) (hc0 := HC_l0.out) (h := E1.out)).mono ?_); rintro e w1 ⟨rfl, hd⟩; (first | have hb := below_of hd | have hb := hd); clear hd; have Z1 := Aside0.mk (show w.heap.size ≤ w1.heap.size from hb.size); have HB' := Aside0.mk (below_step (by repeat (first | (with_reducible first | exact HB.out | apply below_alloc | apply pw_below_drewN | apply below_drew1) | exact HB.out)) hb); clear HB; have HB := HB'; clear HB'; clear E1) | (go_at_call 11; (with_reducible refine (laws_toProfileS.calls (hr0 := (Kd.C_below HR_l0.out (by repeat (first | (with_reducible first | exact HB.out | apply below_alloc | apply pw_below_drewN | apply below_drew1) | exact HB.out)))) (hc0 := HC_l0.out) (h := E3.out)).mono ?_); rintro e w2 ⟨v0_, rfl, ho0, hb⟩; have H_a0 := Aside0.mk (show Kd.S _ _ w2 w.heap.size (fun k_ => w1.heap.size ≤ k_ ∧ k_ < w2.heap.size) v0_ a0 from Kd.S_mono (Kd.S_lower (Kd.S_bound ho0) HB.out.size) (fun k_ hk_ => ⟨hk_.2.1, hk_.2.2.1⟩)); obtain ⟨A_a0, c_a0, e_a0⟩ := Kd.S_slice ho0; subst e_a0; clear ho0; have Z2 := Aside0.mk (show w1.heap.size ≤ w2.heap.size from hb.size); have HB' := Aside0.mk (below_step (by repeat (first | (with_reducible first | exact HB.out | apply below_alloc | apply pw_below_drewN | apply below_drew1) | exact HB.out)) hb); clear HB; have HB := HB'; clear HB'; clear E3) | (go_at_call 16; (with_reducible refine (spec_Rollback.calls (hr0 := (Kd.S_reads' (by first | exact H_a0.out | exact Kd.S_drewN H_a0.out _)).2.2) (hc0 := (Kd.S_reads' H_a0.out).2.1) (h := E4.out)).mono ?_); rintro e w3 ⟨v0_, rfl, ho0, hb⟩; have H_a0' := Aside0.mk (Kd.S_below (by first | exact H_a0.out | exact Kd.S_drewN H_a0.out _) hb); have H_w0 := Aside0.mk (show Kd.S _ _ w3 w.heap.size (fun k_ => w2.heap.size ≤ k_ ∧ k_ < w3.heap.size) v0_ w0 from Kd.S_mono (Kd.S_lower (Kd.S_bound ho0) HB.out.size) (fun k_ hk_ => ⟨hk_.2.1, hk_.2.2.1⟩)); obtain ⟨A_w0, c_w0, e_w0⟩ := Kd.S_slice ho0; subst e_w0; clear ho0; have Z3 := Aside0.mk (show w2.heap.size ≤ w3.heap.size from hb.size); have HB' := Aside0.mk (below_step (by repeat (first | (with_reducible first | exact HB.out | apply below_alloc | apply pw_below_drewN | apply below_drew1) | exact HB.out)) hb); clear HB; have HB := HB'; clear HB'; clear H_a0; have H_a0 := H_a0'; clear H_a0'; clear H_a0; clear E4) | (go_at_call 11; (with_reducible refine (laws_toProfileS.calls (hr0 := (Kd.C_below HR_l0.out (by repeat (first | (with_reducible first | exact HB.out | apply below_alloc | apply pw_below_drewN | apply below_drew1) | exact HB.out)))) (hc0 := HC_l0.out) (h := E5.out)).mono ?_); rintro e w4 ⟨v0_, rfl, ho0, hb⟩; have H_w0' := Aside0.mk (Kd.S_below (by first | exact H_w0.out | exact Kd.S_drewN H_w0.out _) hb); have H_x0 := Aside0.mk (show Kd.S _ _ w4 w.heap.size (fun k_ => w3.heap.size ≤ k_ ∧ k_ < w4.heap.size) v0_ x0 from Kd.S_mono (Kd.S_lower (Kd.S_bound ho0) HB.out.size) (fun k_ hk_ => ⟨hk_.2.1, hk_.2.2.1⟩)); obtain ⟨A_x0, c_x0, e_x0⟩ := Kd.S_slice ho0; subst e_x0; clear ho0; have Z4 := Aside0.mk (show w3.heap.size ≤ w4.heap.size from hb.size); have HB' := Aside0.mk (below_step (by repeat (first | (with_reducible first | exact HB.out | apply below_alloc | apply pw_below_drewN | apply below_drew1) | exact HB.out)) hb); clear HB; have HB := HB'; clear HB'; clear H_w0; have H_w0 := H_w0'; clear H_w0'; clear E5) | (go_at_call 17; (with_reducible refine (impl_Rollback.calls (hr0 := (Kd.S_reads' (by first | exact H_x0.out | exact Kd.S_drewN H_x0.out _)).2.2) (hc0 := (Kd.S_reads' H_x0.out).2.1) (h := E6.out)).mono ?_); rintro e w5 ⟨v0_, rfl, ho0, hb⟩; have H_w0' := Aside0.mk (Kd.S_below (by first | exact H_w0.out | exact Kd.S_drewN H_w0.out _) hb); have H_x0' := Aside0.mk (Kd.S_below (by first | exact H_x0.out | exact Kd.S_drewN H_x0.out _) hb); have H_g0 := Aside0.mk (show Kd.S _ _ w5 w.heap.size (fun k_ => w4.heap.size ≤ k_ ∧ k_ < w5.heap.size) v0_ g0 from Kd.S_mono (Kd.S_lower (Kd.S_bound ho0) HB.out.size) (fun k_ hk_ => ⟨hk_.2.1, hk_.2.2.1⟩)); obtain ⟨A_g0, c_g0, e_g0⟩ := Kd.S_slice ho0; subst e_g0; clear ho0; have Z5 := Aside0.mk (show w4.heap.size ≤ w5.heap.size from hb.size); have HB' := Aside0.mk (below_step (by repeat (first | (with_reducible first | exact HB.out | apply below_alloc | apply pw_below_drewN | apply below_drew1) | exact HB.out)) hb); clear HB; have HB := HB'; clear HB'; clear H_w0; clear H_x0; have H_w0 := H_w0'; clear H_w0'; have H_x0 := H_x0'; clear H_x0'; clear E6) | (go_at_call 13; (with_reducible refine (laws_eqProfileS.calls (hr0 := (Kd.S_reads' (by first | exact H_g0.out | exact Kd.S_drewN H_g0.out _)).2.2) (hc0 := (Kd.S_reads' H_g0.out).2.1) (hr1 := (Kd.S_reads' (by first | exact H_w0.out | exact Kd.S_drewN H_w0.out _)).2.2) (hc1 := (Kd.S_reads' H_w0.out).2.1) (h := E7.out)).mono ?_); rintro e w6 ⟨rfl, hd⟩; (first | have hb := below_of hd | have hb := hd); clear hd; have Z6 := Aside0.mk (show w5.heap.size ≤ w6.heap.size from hb.size); have HB' := Aside0.mk (below_step (by repeat (first | (with_reducible first | exact HB.out | apply below_alloc | apply pw_below_drewN | apply below_drew1) | exact HB.out)) hb); clear HB; have HB := HB'; clear HB'; have H_w0' := Aside0.mk (Kd.S_below (by first | exact H_w0.out | exact Kd.S_drewN H_w0.out _) hb); have H_x0' := Aside0.mk (Kd.S_below (by first | exact H_x0.out | exact Kd.S_drewN H_x0.out _) hb); have H_g0' := Aside0.mk (Kd.S_below (by first | exact H_g0.out | exact Kd.S_drewN H_g0.out _) hb); clear H_w0; clear H_x0; clear H_g0; have H_w0 := H_w0'; clear H_w0'; have H_x0 := H_x0'; clear H_x0'; have H_g0 := H_g0'; clear H_g0'; clear E7) | (go_at_call 11; (with_reducible refine (laws_toProfileS.calls (hr0 := (Kd.C_below HR_l0.out (by repeat (first | (with_reducible first | exact HB.out | apply below_alloc | apply pw_below_drewN | apply below_drew1) | exact HB.out)))) (hc0 := HC_l0.out) (h := E10.out)).mono ?_); rintro e w7 ⟨v0_, rfl, ho0, hb⟩; have H_w0' := Aside0.mk (Kd.S_below (by first | exact H_w0.out | exact Kd.S_drewN H_w0.out _) hb); have H_x0' := Aside0.mk (Kd.S_below (by first | exact H_x0.out | exact Kd.S_drewN H_x0.out _) hb); have H_g0' := Aside0.mk (Kd.S_below (by first | exact H_g0.out | exact Kd.S_drewN H_g0.out _) hb); have H_b0 := Aside0.mk (show Kd.S _ _ w7 w.heap.size (fun k_ => w6.heap.size ≤ k_ ∧ k_ < w7.heap.size) v0_ b0 from Kd.S_mono (Kd.S_lower (Kd.S_bound ho0) HB.out.size) (fun k_ hk_ => ⟨hk_.2.1, hk_.2.2.1⟩)); obtain ⟨A_b0, c_b0, e_b0⟩ := Kd.S_slice ho0; subst e_b0; clear ho0; have Z7 := Aside0.mk (show w6.heap.size ≤ w7.heap.size from hb.size); have HB' := Aside0.mk (below_step (by repeat (first | (with_reducible first | exact HB.out | apply below_alloc | apply pw_below_drewN | apply below_drew1) | exact HB.out)) hb); clear HB; have HB := HB'; clear HB'; clear H_w0; clear H_x0; clear H_g0; have H_w0 := H_w0'; clear H_w0'; have H_x0 := H_x0'; clear H_x0'; have H_g0 := H_g0'; clear H_g0'; clear E10) | (go_at_call 13; (with_reducible refine (laws_eqProfileS.calls (hr0 := (Kd.S_reads' (by first | exact H_x0.out | exact Kd.S_drewN H_x0.out _)).2.2) (hc0 := (Kd.S_reads' H_x0.out).2.1) (hr1 := (Kd.S_reads' (by first | exact H_b0.out | exact Kd.S_drewN H_b0.out _)).2.2) (hc1 := (Kd.S_reads' H_b0.out).2.1) (h := E11.out)).mono ?_); rintro e w8 ⟨rfl, hd⟩; (first | have hb := below_of hd | have hb := hd); clear hd; have Z8 := Aside0.mk (show w7.heap.size ≤ w8.heap.size from hb.size); have HB' := Aside0.mk (below_step (by repeat (first | (with_reducible first | exact HB.out | apply below_alloc | apply pw_below_drewN | apply below_drew1) | exact HB.out)) hb); clear HB; have HB := HB'; clear HB'; have H_w0' := Aside0.mk (Kd.S_below (by first | exact H_w0.out | exact Kd.S_drewN H_w0.out _) hb); have H_x0' := Aside0.mk (Kd.S_below (by first | exact H_x0.out | exact Kd.S_drewN H_x0.out _) hb); have H_g0' := Aside0.mk (Kd.S_below (by first | exact H_g0.out | exact Kd.S_drewN H_g0.out _) hb); have H_b0' := Aside0.mk (Kd.S_below (by first | exact H_b0.out | exact Kd.S_drewN H_b0.out _) hb); clear H_w0; clear H_x0; clear H_g0; clear H_b0; have H_w0 := H_w0'; clear H_w0'; have H_x0 := H_x0'; clear H_x0'; have H_g0 := H_g0'; clear H_g0'; have H_b0 := H_b0'; clear H_b0'; clear H_b0; clear E11) | (go_at_call 18; (with_reducible refine (laws_markProfileS.calls (w0 := w) (hB := by repeat (first | (with_reducible first | exact HB.out | apply below_alloc | apply pw_below_drewN | apply below_drew1) | exact HB.out)) (ho0 := by first | exact H_x0.out | exact Kd.S_drewN H_x0.out _) (h := E13.out)).mono ?_); rintro e w9 ⟨rfl, ho, hb0, hk⟩; have hl := (Kd.S_reads' ho).1; have Z9 := Aside0.mk (show w8.heap.size ≤ w9.heap.size from hk.1); have H_w0' := Aside0.mk (Kd.S_kept (by first | exact H_w0.out | exact Kd.S_drewN H_w0.out _) hk (fun k_ h1_ h2_ => by have h1_ : w2.heap.size ≤ k_ ∧ k_ < w3.heap.size := h1_; have h2_ : w3.heap.size ≤ k_ ∧ k_ < w4.heap.size := h2_; have := Z1.out; have := Z2.out; have := Z3.out; have := Z4.out; have := Z5.out; have := Z6.out; have := Z7.out; have := Z8.out; have := Z9.out; omega)); have H_g0' := Aside0.mk (Kd.S_kept (by first | exact H_g0.out | exact Kd.S_drewN H_g0.out _) hk (fun k_ h1_ h2_ => by have h1_ : w4.heap.size ≤ k_ ∧ k_ < w5.heap.size := h1_; have h2_ : w3.heap.size ≤ k_ ∧ k_ < w4.heap.size := h2_; have := Z1.out; have := Z2.out; have := Z3.out; have := Z4.out; have := Z5.out; have := Z6.out; have := Z7.out; have := Z8.out; have := Z9.out; omega)); have HB' := Aside0.mk hb0; clear HB; have HB := HB'; clear HB' hb0 hk; rw [hl] at ho; have H_x0' := Aside0.mk (Kd.S_bound ho); rw [hl]; clear ho; clear H_w0; clear H_x0; clear H_g0; have H_w0 := H_w0'; clear H_w0'; have H_z0 := H_x0'; clear H_x0'; have H_g0 := H_g0'; clear H_g0'; clear H_z0; clear E13) | (go_at_call 13; (with_reducible refine (laws_eqProfileS.calls (hr0 := (Kd.S_reads' (by first | exact H_g0.out | exact Kd.S_drewN H_g0.out _)).2.2) (hc0 := (Kd.S_reads' H_g0.out).2.1) (hr1 := (Kd.S_reads' (by first | exact H_w0.out | exact Kd.S_drewN H_w0.out _)).2.2) (hc1 := (Kd.S_reads' H_w0.out).2.1) (h := E15.out)).mono ?_); rintro e w10 ⟨rfl, hd⟩; (first | have hb := below_of hd | have hb := hd); clear hd; have Z10 := Aside0.mk (show w9.heap.size ≤ w10.heap.size from hb.size); have HB' := Aside0.mk (below_step (by repeat (first | (with_reducible first | exact HB.out | apply below_alloc | apply pw_below_drewN | apply below_drew1) | exact HB.out)) hb); clear HB; have HB := HB'; clear HB'; have H_w0' := Aside0.mk (Kd.S_below (by first | exact H_w0.out | exact Kd.S_drewN H_w0.out _) hb); have H_g0' := Aside0.mk (Kd.S_below (by first | exact H_g0.out | exact Kd.S_drewN H_g0.out _) hb); clear H_w0; clear H_g0; have H_w0 := H_w0'; clear H_w0'; have H_g0 := H_g0'; clear H_g0'; clear E15) | (go_at_call 18; (with_reducible refine (laws_markProfileS.calls (w0 := w) (hB := by repeat (first | (with_reducible first | exact HB.out | apply below_alloc | apply pw_below_drewN | apply below_drew1) | exact HB.out)) (ho0 := by first | exact H_g0.out | exact Kd.S_drewN H_g0.out _) (h := E17.out)).mono ?_); rintro e w11 ⟨rfl, ho, hb0, hk⟩; have hl := (Kd.S_reads' ho).1; have Z11 := Aside0.mk (show w10.heap.size ≤ w11.heap.size from hk.1); have H_w0' := Aside0.mk (Kd.S_kept (by first | exact H_w0.out | exact Kd.S_drewN H_w0.out _) hk (fun k_ h1_ h2_ => by have h1_ : w2.heap.size ≤ k_ ∧ k_ < w3.heap.size := h1_; have h2_ : w4.heap.size ≤ k_ ∧ k_ < w5.heap.size := h2_; have := Z1.out; have := Z2.out; have := Z3.out; have := Z4.out; have := Z5.out; have := Z6.out; have := Z7.out; have := Z8.out; have := Z9.out; have := Z10.out; have := Z11.out; omega)); have HB' := Aside0.mk hb0; clear HB; have HB := HB'; clear HB' hb0 hk; rw [hl] at ho; have H_g0' := Aside0.mk (Kd.S_bound ho); rw [hl]; clear ho; clear H_w0; clear H_g0; have H_w0 := H_w0'; clear H_w0'; have H_e0 := H_g0'; clear H_g0'; clear E17) | (go_at_call 19; (with_reducible refine (laws_heldProfileS.calls (hr0 := (Kd.S_reads' (by first | exact H_e0.out | exact Kd.S_drewN H_e0.out _)).2.2) (hc0 := (Kd.S_reads' H_e0.out).2.1) (h := E18.out)).mono ?_); rintro e w12 ⟨rfl, hd⟩; (first | have hb := below_of hd | have hb := hd); clear hd; have Z12 := Aside0.mk (show w11.heap.size ≤ w12.heap.size from hb.size); have HB' := Aside0.mk (below_step (by repeat (first | (with_reducible first | exact HB.out | apply below_alloc | apply pw_below_drewN | apply below_drew1) | exact HB.out)) hb); clear HB; have HB := HB'; clear HB'; have H_w0' := Aside0.mk (Kd.S_below (by first | exact H_w0.out | exact Kd.S_drewN H_w0.out _) hb); have H_e0' := Aside0.mk (Kd.S_below (by first | exact H_e0.out | exact Kd.S_drewN H_e0.out _) hb); clear H_w0; clear H_e0; have H_w0 := H_w0'; clear H_w0'; have H_e0 := H_e0'; clear H_e0'; clear E18) | (go_at_call 11; (with_reducible refine (laws_toProfileS.calls (hr0 := (Kd.C_below HR_l0.out (by repeat (first | (with_reducible first | exact HB.out | apply below_alloc | apply pw_below_drewN | apply below_drew1) | exact HB.out)))) (hc0 := HC_l0.out) (h := E21.out)).mono ?_); rintro e w13 ⟨v0_, rfl, ho0, hb⟩; have H_w0' := Aside0.mk (Kd.S_below (by first | exact H_w0.out | exact Kd.S_drewN H_w0.out _) hb); have H_e0' := Aside0.mk (Kd.S_below (by first | exact H_e0.out | exact Kd.S_drewN H_e0.out _) hb); have H_c0 := Aside0.mk (show Kd.S _ _ w13 w.heap.size (fun k_ => w12.heap.size ≤ k_ ∧ k_ < w13.heap.size) v0_ c0 from Kd.S_mono (Kd.S_lower (Kd.S_bound ho0) HB.out.size) (fun k_ hk_ => ⟨hk_.2.1, hk_.2.2.1⟩)); obtain ⟨A_c0, c_c0, e_c0⟩ := Kd.S_slice ho0; subst e_c0; clear ho0; have Z13 := Aside0.mk (show w12.heap.size ≤ w13.heap.size from hb.size); have HB' := Aside0.mk (below_step (by repeat (first | (with_reducible first | exact HB.out | apply below_alloc | apply pw_below_drewN | apply below_drew1) | exact HB.out)) hb); clear HB; have HB := HB'; clear HB'; clear H_w0; clear H_e0; have H_w0 := H_w0'; clear H_w0'; have H_e0 := H_e0'; clear H_e0'; clear E21) | (go_at_call 17; (with_reducible refine (impl_Rollback.calls (hr0 := (Kd.S_reads' (by first | exact H_c0.out | exact Kd.S_drewN H_c0.out _)).2.2) (hc0 := (Kd.S_reads' H_c0.out).2.1) (h := E22.out)).mono ?_); rintro e w14 ⟨v0_, rfl, ho0, hb⟩; have H_w0' := Aside0.mk (Kd.S_below (by first | exact H_w0.out | exact Kd.S_drewN H_w0.out _) hb); have H_e0' := Aside0.mk (Kd.S_below (by first | exact H_e0.out | exact Kd.S_drewN H_e0.out _) hb); have H_c0' := Aside0.mk (Kd.S_below (by first | exact H_c0.out | exact Kd.S_drewN H_c0.out _) hb); have H_h0 := Aside0.mk (show Kd.S _ _ w14 w.heap.size (fun k_ => w13.heap.size ≤ k_ ∧ k_ < w14.heap.size) v0_ h0 from Kd.S_mono (Kd.S_lower (Kd.S_bound ho0) HB.out.size) (fun k_ hk_ => ⟨hk_.2.1, hk_.2.2.1⟩)); obtain ⟨A_h0, c_h0, e_h0⟩ := Kd.S_slice ho0; subst e_h0; clear ho0; have Z14 := Aside0.mk (show w13.heap.size ≤ w14.heap.size from hb.size); have HB' := Aside0.mk (below_step (by repeat (first | (with_reducible first | exact HB.out | apply below_alloc | apply pw_below_drewN | apply below_drew1) | exact HB.out)) hb); clear HB; have HB := HB'; clear HB'; clear H_w0; clear H_e0; clear H_c0; have H_w0 := H_w0'; clear H_w0'; have H_e0 := H_e0'; clear H_e0'; have H_c0 := H_c0'; clear H_c0'; clear H_c0; clear E22) | (go_at_call 13; (with_reducible refine (laws_eqProfileS.calls (hr0 := (Kd.S_reads' (by first | exact H_h0.out | exact Kd.S_drewN H_h0.out _)).2.2) (hc0 := (Kd.S_reads' H_h0.out).2.1) (hr1 := (Kd.S_reads' (by first | exact H_w0.out | exact Kd.S_drewN H_w0.out _)).2.2) (hc1 := (Kd.S_reads' H_w0.out).2.1) (h := E23.out)).mono ?_); rintro e w15 ⟨rfl, hd⟩; (first | have hb := below_of hd | have hb := hd); clear hd; have Z15 := Aside0.mk (show w14.heap.size ≤ w15.heap.size from hb.size); have HB' := Aside0.mk (below_step (by repeat (first | (with_reducible first | exact HB.out | apply below_alloc | apply pw_below_drewN | apply below_drew1) | exact HB.out)) hb); clear HB; have HB := HB'; clear HB'; have H_w0' := Aside0.mk (Kd.S_below (by first | exact H_w0.out | exact Kd.S_drewN H_w0.out _) hb); have H_e0' := Aside0.mk (Kd.S_below (by first | exact H_e0.out | exact Kd.S_drewN H_e0.out _) hb); have H_h0' := Aside0.mk (Kd.S_below (by first | exact H_h0.out | exact Kd.S_drewN H_h0.out _) hb); clear H_w0; clear H_e0; clear H_h0; have H_w0 := H_w0'; clear H_w0'; have H_e0 := H_e0'; clear H_e0'; have H_h0 := H_h0'; clear H_h0'; clear H_w0; clear H_h0; clear E23) | (go_at_call 19; (with_reducible refine (laws_heldProfileS.calls (hr0 := (Kd.S_reads' (by first | exact H_e0.out | exact Kd.S_drewN H_e0.out _)).2.2) (hc0 := (Kd.S_reads' H_e0.out).2.1) (h := E26.out)).mono ?_); rintro e w16 ⟨rfl, hd⟩; (first | have hb := below_of hd | have hb := hd); clear hd; have Z16 := Aside0.mk (show w15.heap.size ≤ w16.heap.size from hb.size); have HB' := Aside0.mk (below_step (by repeat (first | (with_reducible first | exact HB.out | apply below_alloc | apply pw_below_drewN | apply below_drew1) | exact HB.out)) hb); clear HB; have HB := HB'; clear HB'; have H_e0' := Aside0.mk (Kd.S_below (by first | exact H_e0.out | exact Kd.S_drewN H_e0.out _) hb); clear H_e0; have H_e0 := H_e0'; clear H_e0'; clear H_e0; clear E26))
  go_ret
  exact ⟨rfl, by repeat (first | (with_reducible first | exact HB.out | apply below_alloc | apply pw_below_drewN | apply below_drew1) | exact HB.out)⟩

/-- THE ONE PURE STATEMENT of laws_FnExactRollback: yours. -/
def laws_FnExactRollback.Pure : Prop := ∀ (l0 : List (S49)) (a1 : ByteArray), (l0.length ≤ maxLen ∧ ∀ y0 ∈ l0, (y0.f0.size ≤ maxLen ∧ (Lit.int .i64 y0.f1).wf = true ∧ (y0.f2.length ≤ maxLen ∧ ∀ y1 ∈ y0.f2, ((Lit.int .i64 y1.f0).wf = true ∧ y1.f1.size ≤ maxLen)))) → a1.size ≤ maxLen → ∃ k, laws_FnExactRollback.f k l0 a1 = some true
theorem laws_FnExactRollback.walk (P : laws_FnExactRollback.Pure) (A0 : Option Addr) (c0 : Nat) (l0 : List (S49)) (a1 : ByteArray) (w : World) (hr0 : Kd.C k49 w A0 l0.length l0) (hc0 : l0.length ≤ c0) (ok0 : (l0.length ≤ maxLen ∧ ∀ y0 ∈ l0, (y0.f0.size ≤ maxLen ∧ (Lit.int .i64 y0.f1).wf = true ∧ (y0.f2.length ≤ maxLen ∧ ∀ y1 ∈ y0.f2, ((Lit.int .i64 y1.f0).wf = true ∧ y1.f1.size ≤ maxLen))))) (ok1 : a1.size ≤ maxLen) :
    Calls Try.prog 5 #[.slice A0 l0.length c0, .string a1] w fun e w' => e = .returned (.bool true) ∧ Below w.heap.size w w' := by
  obtain ⟨k, h⟩ := P l0 a1 ok0 ok1
  refine (laws_FnExactRollback.calls k _ _ l0 a1 true w hr0 hc0 h).mono ?_
  rintro e w' ⟨rfl, hd⟩
  exact ⟨rfl, hd⟩
end Go.Proofs.Ytbgnjnlecpdfaaa.PFnExactRollback
