-- Laid by a program of this session: a turned copy of the kit's print, with contracts by hand beside.
import Derived.Test.YtnahkojlamficaaPFnExactPlanUnitsx0
import Derived.Test.YtnahkojlamficaaPFnExactPlanUnitsx2
namespace Go.Proofs.Ytnahkojlamficaa.PFnExactPlanUnits
open Go.RowKit Go.Proofs.YtnahkojlamficaaW.PrintWords Go.Proofs.YtnahkojlamficaaW.PrintLast Go.Proofs.YtnahkojlamficaaW.PrintMore
theorem zbe0 {X : Prop} (h : X := by first | rfl | (simp; done) | (simp [*]; done)) : X := h
theorem zbe1 {X : Prop} (h : X := by repeat (first | (with_reducible first | exact HB.out | apply below_alloc | apply pw_below_drewN | apply below_drew1) | exact HB.out)) : X := h
theorem zbe2 {X : Prop} (h : X := by first | (with_reducible assumption) | assumption) : X := h
theorem zbe3 {X : Prop} (h : X := by exact ⟨((HB.out.cell (World.block_lt_of_cell? w _ hw325_0)).trans hw325_0), ((HB.out.cell (World.block_lt_of_cell? w _ hw325_1)).trans hw325_1)⟩) : X := h
theorem zbe4 {X : Prop} (h : X := by (try simp only [List.map_toArray, List.map_cons, List.map_nil]); first | done | rfl | (simp only [List.length_drop, List.length_take]; rfl)) : X := h
theorem zbe5 {X : Prop} (h : X := by first | rfl | (simp [errW_none, errW_some] <;> rfl) | (simp [*, errW_none, errW_some] <;> rfl)) : X := h
theorem zbeN {P : Program} {ops : Array Oper} {Q : Exit → Act → World → Prop} {md : Region.Mode} {S : World → Prop} {ds : List Nat} {fuel : Nat} {l : Array Bool} {a a' : Act} {w : World} (h : wpAnyLast P md ops Q S ds fuel l a' w) (ha : a = a' := by show Act.put _ _ _ = _; simp only [Act.put, sT, s0, sS, i64_w, i32_w]; rfl) : wpAnyLast P md ops Q S ds fuel l a w := norm_ ha h
attribute [local go_sem] max2_int min2_int max_two min_two max_three min_three max_four min_four   -- for this text's walks alone
set_option linter.unusedVariables false
set_option linter.unusedSimpArgs false

/-! ### laws_heldActS: function 37 -/
def laws_heldActS.l0 : Nat → List (S62) → Int → Int → Option (Int)
 | 0, _, _, _ => none
 | k + 1, x0, x1, x5 => if x5 < (x0.length : Int) then (if 0 ≤ x5 then (if ((rd_T62 x0 x5).f0) = x1 then ((laws_markText.f k (wrap64 (x1 + 1))).bind fun t326 => (if ((rd_T62 x0 x5).f1).toList = t326.toList then (laws_heldActS.l0 k x0 (wrap64 ((wrap64 (x1 + 1)) + 1)) (wrap64 (x5 + 1))) else (some (-1)))) else (some (-1))) else (none)) else (some x1)
def laws_heldActS.f (k : Nat) (l0 : List (S62)) (a1 : Int) : Option (Int) := laws_heldActS.l0 k l0 a1 0
theorem laws_heldActS.mono_l : ∀ k, (∀ y0 y1 y2, LeO (laws_heldActS.l0 k y0 y1 y2) (laws_heldActS.l0 (k + 1) y0 y1 y2))
 | 0 => fun _ _ _ r h => by simp [laws_heldActS.l0] at h
 | k + 1 => by
  have ih0 := laws_heldActS.mono_l k
  ·intro y0 y1 y2; unfold laws_heldActS.l0
   repeat' first
   | (with_reducible exact ih0 _ _ _)
   | (with_reducible exact laws_markText.mono _ _)
   | (with_reducible exact LeO.refl _)
   | (with_reducible exact LeO.none _)
   | (with_reducible refine LeO.ite ?_ ?_)
   | (with_reducible refine LeO.bind ?_ (fun _ => ?_))
   | exact ih0 _ _ _
   | exact laws_markText.mono _ _
   | exact LeO.none _
   | refine LeO.ite ?_ ?_
   | refine LeO.bind ?_ (fun _ => ?_)
theorem laws_heldActS.mono : ∀ a0 a1 k, LeO (laws_heldActS.f k a0 a1) (laws_heldActS.f (k + 1) a0 a1) := by
 intro a0 a1 k; have ih0 := laws_heldActS.mono_l k; unfold laws_heldActS.f
 repeat' first
   | (with_reducible exact ih0 _ _ _)
   | (with_reducible exact laws_markText.mono _ _)
   | (with_reducible exact LeO.refl _)
   | (with_reducible exact LeO.none _)
   | (with_reducible refine LeO.ite ?_ ?_)
   | (with_reducible refine LeO.bind ?_ (fun _ => ?_))
   | exact ih0 _ _ _
   | exact laws_markText.mono _ _
   | exact LeO.none _
   | refine LeO.ite ?_ ?_
   | refine LeO.bind ?_ (fun _ => ?_)
def laws_heldActS.T7 : Bool × List (List Nat × List Nat) := (true, [([], []), ([], []), ([0, 1], [0, 1]), ([2], [2]), ([3], [3]), ([], []), ([5], [5]), ([4, 6], [4, 6])])
def laws_heldActS.B7 : List Nat := [0, 0, 3, 7, 15, 0, 32, 127]
theorem laws_heldActS.tab7 : rtab .any (opsOf Try.f37 7) = laws_heldActS.T7 := by kernel_rfl
theorem laws_heldActS.bits7 : waitsOk laws_heldActS.T7.2 laws_heldActS.B7 = true := by kernel_rfl
set_option maxHeartbeats 8000000 in
set_option maxRecDepth 100000 in
theorem laws_heldActS.calls (k : Nat) (A0 : Option Addr) (c0 : Nat) (l0 : List (S62)) (a1 : Int) (r : Int) (w : World) (hr0 : Kd.C k62 w A0 l0.length l0) (hc0 : l0.length ≤ c0) (h : laws_heldActS.f k l0 a1 = some r) :
  Calls Try.prog 37 #[.slice A0 l0.length c0, .int .i64 a1] w fun e w' => e = .returned (.int .i64 r) ∧ Below w.heap.size w w' := by
 have HR0 := Aside0.mk hr0; have HC0 := Aside0.mk hc0; clear hr0 hc0; have HB := Aside0.mk (Below.refl w.heap.size w); have H : (laws_heldActS.l0 k l0 a1 0) = some r := h; clear h; have H' := Aside0.mk H; clear H; go_enter Try.func37, Try.ntmps37; go_wp2; go_loopg [1, 5] k (fun kq v1 v5 w' => ∃ (x1_1 : Int) (x5_1 : Int), v1 = .int .i64 x1_1 ∧ v5 = .int .i64 x5_1 ∧ Aside0 (laws_heldActS.l0 kq l0 x1_1 x5_1 = some r) ∧ Aside0 (kq ≤ k) ∧ Aside0 (Below w.heap.size w w')); (case atStart => exact ⟨(a1), (0), zbe0, zbe0, H', ⟨Nat.le_refl _⟩, ⟨zbe1⟩⟩); case round =>
  clear H'; (try clear p2); obtain ⟨x1_1, x5_1, rfl, rfl, HA, HK1, HB⟩ := hrel
  cases gk with
  | zero => exact absurd HA.out (by simp [laws_heldActS.l0])
  | succ k1 =>
   have H := HA.out; clear HA; simp only [laws_heldActS.l0] at H; by_cases c3 : x5_1 < (l0.length : Int)
   ·rw [if_pos c3] at H; have c3b0 : decide (x5_1 < (l0.length : Int)) = true := decide_eq_true c3; clear c3; by_cases c4 : 0 ≤ x5_1
    ·rw [if_pos c4] at H; have c4b0 : decide (0 ≤ x5_1) = true := decide_eq_true c4; clear c4; by_cases c5 : ((rd_T62 l0 x5_1).f0) = x1_1
     ·rw [if_pos c5] at H; have c5b0 : (((rd_T62 l0 x5_1).f0) == x1_1) = true := beq_iff_eq.mpr c5; have c5b1 : (((rd_T62 l0 x5_1).f0) != x1_1) = false := bne_eq_false_iff_eq.mpr c5; clear c5; replace H := Option.bind_eq_some_iff.mp H; obtain ⟨t326, A60, H⟩ := H; have A6 := Aside0.mk A60; clear A60; by_cases c7 : ((rd_T62 l0 x5_1).f1).toList = t326.toList
      ·rw [if_pos c7] at H; have c7b0 : (((rd_T62 l0 x5_1).f1).toList == t326.toList) = true := beq_iff_eq.mpr c7; have c7b1 : (((rd_T62 l0 x5_1).f1).toList != t326.toList) = false := bne_eq_false_iff_eq.mpr c7; clear c7; have H' := Aside0.mk H; clear H; have p324 : 0 ≤ (x5_1 : Int) := of_decide_eq_true zbe2; have q324 : x5_1 < (l0.length : Int) := of_decide_eq_true zbe2; obtain ⟨ad324, e324, hx324_0, hx324_1⟩ := at_T62 HR0.out x5_1 p324 q324; cases e324; (try (replace hx324_0 := (HB.out.cell (World.block_lt_of_cell? w _ hx324_0)).trans hx324_0)); (try (replace hx324_1 := (HB.out.cell (World.block_lt_of_cell? w _ hx324_1)).trans hx324_1)); replace p324 := eq_true p324; replace q324 := eq_true q324; (try go_wp2); replace HB := Aside0.mk (below_drew1 HB.out); have p325 : 0 ≤ (x5_1 : Int) := of_decide_eq_true zbe2; have q325 : x5_1 < (l0.length : Int) := of_decide_eq_true zbe2; obtain ⟨ad325, e325, hx325_0, hx325_1⟩ := at_T62 HR0.out x5_1 p325 q325; have hw325_1 := hx325_1; have hw325_0 := hx325_0; obtain rfl : ad324 = ad325 := (by injection e325); (try (replace hx325_0 := (HB.out.cell (World.block_lt_of_cell? w _ hx325_0)).trans hx325_0)); (try (replace hx325_1 := (HB.out.cell (World.block_lt_of_cell? w _ hx325_1)).trans hx325_1)); replace p325 := eq_true p325; replace q325 := eq_true q325; refine start_ (n := 8) (S := fun w' => w'.cell? (ad324.add ((x5_1).toNat * 2)) = some (.int .i64 ((rd_T62 l0 x5_1).f0)) ∧ w'.cell? ⟨(ad324.add ((x5_1).toNat * 2)).block, (ad324.add ((x5_1).toNat * 2)).off + 1, none⟩ = some (.string ((rd_T62 l0 x5_1).f1))) (ds := []) (tf 8 0) (by kernel_rfl) rfl rfl zbe3 (fun hHeld => ?_); refine with_tabW laws_heldActS.tab7 laws_heldActS.bits7 (fun HT_ HW_ => ?_); generalize wr.drew = w8 at HB hx325_0 hx325_1 hHeld ⊢; refine qA 0 21 (tf 8 1) ?_; refine qA 1 22 (tf 8 3) ?_; refine qA 2 23 (tf 8 7) ?_; refine qA 3 24 (tf 8 15) ?_; refine qA 5 26 (tf 8 47) ?_; refine qT 4 25 (tf 8 63) ?_; refine one_ (i := 6) (N := some 27) (tf 8 127) rfl rfl (one_of HT_.out (by kernel_rfl)) (by decide) (fun K hK => ?_); refine goes_ Try.func59 (by kernel_rfl) rfl #[.int .i64 (wrap64 (x1_1 + 1))] (by rfl) rfl rfl zbe4 ?_; (with_reducible refine (laws_markText.calls k1 (wrap64 (x1_1 + 1)) t326 _ A6.out).mono ?_); rintro e w9 ⟨rfl, hb⟩; refine ⟨_, rfl, ?_⟩; replace HB := Aside0.mk (below_step qB hb); (try clear hb); (try clear hb2); (try clear hk); (try clear hi); refine hK.out _ _ zbe3 (fun hHeld => ?_); clear hK K; refine zbeN ?_; refine qA 7 28 (tf 8 255) ?_; refine done_ (done_of HT_.out (by kernel_rfl)) ?_; (try go_wp2); go_roundg k1; (case measure => have := HK1.out; omega); case rel => exact ⟨(wrap64 ((wrap64 (x1_1 + 1)) + 1)), (wrap64 (x5_1 + 1)), zbe0, zbe0, H', ⟨by have := HK1.out; omega⟩, ⟨zbe1⟩⟩
      ·rw [if_neg c7] at H; have c7b0 : (((rd_T62 l0 x5_1).f1).toList == t326.toList) = false := beq_eq_false_iff_ne.mpr c7; have c7b1 : (((rd_T62 l0 x5_1).f1).toList != t326.toList) = true := bne_iff_ne.mpr c7; obtain rfl := Option.some.inj H; have p324 : 0 ≤ (x5_1 : Int) := of_decide_eq_true zbe2; have q324 : x5_1 < (l0.length : Int) := of_decide_eq_true zbe2; obtain ⟨ad324, e324, hx324_0, hx324_1⟩ := at_T62 HR0.out x5_1 p324 q324; cases e324; (try (replace hx324_0 := (HB.out.cell (World.block_lt_of_cell? w _ hx324_0)).trans hx324_0)); (try (replace hx324_1 := (HB.out.cell (World.block_lt_of_cell? w _ hx324_1)).trans hx324_1)); replace p324 := eq_true p324; replace q324 := eq_true q324; (try go_wp2); replace HB := Aside0.mk (below_drew1 HB.out); have p325 : 0 ≤ (x5_1 : Int) := of_decide_eq_true zbe2; have q325 : x5_1 < (l0.length : Int) := of_decide_eq_true zbe2; obtain ⟨ad325, e325, hx325_0, hx325_1⟩ := at_T62 HR0.out x5_1 p325 q325; have hw325_1 := hx325_1; have hw325_0 := hx325_0; obtain rfl : ad324 = ad325 := (by injection e325); (try (replace hx325_0 := (HB.out.cell (World.block_lt_of_cell? w _ hx325_0)).trans hx325_0)); (try (replace hx325_1 := (HB.out.cell (World.block_lt_of_cell? w _ hx325_1)).trans hx325_1)); replace p325 := eq_true p325; replace q325 := eq_true q325; refine start_ (n := 8) (S := fun w' => w'.cell? (ad324.add ((x5_1).toNat * 2)) = some (.int .i64 ((rd_T62 l0 x5_1).f0)) ∧ w'.cell? ⟨(ad324.add ((x5_1).toNat * 2)).block, (ad324.add ((x5_1).toNat * 2)).off + 1, none⟩ = some (.string ((rd_T62 l0 x5_1).f1))) (ds := []) (tf 8 0) (by kernel_rfl) rfl rfl zbe3 (fun hHeld => ?_); refine with_tabW laws_heldActS.tab7 laws_heldActS.bits7 (fun HT_ HW_ => ?_); generalize wr.drew = w10 at HB hx325_0 hx325_1 hHeld ⊢; refine qA 0 21 (tf 8 1) ?_; refine qA 1 22 (tf 8 3) ?_; refine qA 2 23 (tf 8 7) ?_; refine qA 3 24 (tf 8 15) ?_; refine qA 5 26 (tf 8 47) ?_; refine qT 4 25 (tf 8 63) ?_; refine one_ (i := 6) (N := some 27) (tf 8 127) rfl rfl (one_of HT_.out (by kernel_rfl)) (by decide) (fun K hK => ?_); refine goes_ Try.func59 (by kernel_rfl) rfl #[.int .i64 (wrap64 (x1_1 + 1))] (by rfl) rfl rfl zbe4 ?_; (with_reducible refine (laws_markText.calls k1 (wrap64 (x1_1 + 1)) t326 _ A6.out).mono ?_); rintro e w11 ⟨rfl, hb⟩; refine ⟨_, rfl, ?_⟩; replace HB := Aside0.mk (below_step qB hb); (try clear hb); (try clear hb2); (try clear hk); (try clear hi); refine hK.out _ _ zbe3 (fun hHeld => ?_); clear hK K; refine zbeN ?_; refine qA 7 28 (tf 8 255) ?_; refine done_ (done_of HT_.out (by kernel_rfl)) ?_; (try go_wp2); go_ret; exact ⟨zbe5, zbe1⟩
     ·rw [if_neg c5] at H; have c5b0 : (((rd_T62 l0 x5_1).f0) == x1_1) = false := beq_eq_false_iff_ne.mpr c5; have c5b1 : (((rd_T62 l0 x5_1).f0) != x1_1) = true := bne_iff_ne.mpr c5; obtain rfl := Option.some.inj H; have p324 : 0 ≤ (x5_1 : Int) := of_decide_eq_true zbe2; have q324 : x5_1 < (l0.length : Int) := of_decide_eq_true zbe2; obtain ⟨ad324, e324, hx324_0, hx324_1⟩ := at_T62 HR0.out x5_1 p324 q324; cases e324; (try (replace hx324_0 := (HB.out.cell (World.block_lt_of_cell? w _ hx324_0)).trans hx324_0)); (try (replace hx324_1 := (HB.out.cell (World.block_lt_of_cell? w _ hx324_1)).trans hx324_1)); replace p324 := eq_true p324; replace q324 := eq_true q324; go_wp2; go_ret; exact ⟨zbe5, zbe1⟩
    ·rw [if_neg c4] at H; exact absurd H (by simp)
   ·rw [if_neg c3] at H; have c3b0 : decide (x5_1 < (l0.length : Int)) = false := decide_eq_false c3; clear c3; obtain rfl := Option.some.inj H; go_wp2; go_ret; exact ⟨zbe5, zbe1⟩

end Go.Proofs.Ytnahkojlamficaa.PFnExactPlanUnits
