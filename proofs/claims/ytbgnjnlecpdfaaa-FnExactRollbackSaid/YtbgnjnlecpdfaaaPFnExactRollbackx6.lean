-- Laid by a program of this session: a turned copy of the kit's print, with contracts by hand beside.
import Derived.Test.YtbgnjnlecpdfaaaPFnExactRollbackx0
import Derived.Test.YtbgnjnlecpdfaaaPFnExactRollbackx3
import Derived.Test.YtbgnjnlecpdfaaaPFnExactRollbackx5
namespace Go.Proofs.Ytbgnjnlecpdfaaa.PFnExactRollback
open Go.RowKit Go.Proofs.YtbgnjnlecpdfaaaW.PrintWords Go.Proofs.YtbgnjnlecpdfaaaW.PrintLast Go.Proofs.YtbgnjnlecpdfaaaW.PrintMore
attribute [local go_sem] max2_int min2_int max_two min_two max_three min_three max_four min_four   -- for this text's walks alone
set_option linter.unusedVariables false
set_option linter.unusedSimpArgs false

/-! ### spec_l13Find: function 37 -/
def spec_l13Find.l0 : Nat → List (S52) → ByteArray → Int → Option (Int)
  | 0, _, _, _ => none
  | k + 1, x0, x1, x5 => if x5 < (x0.length : Int) then (if 0 ≤ x5 then (if ((rd_T52 x0 x5).f0).toList = x1.toList then (some x5) else (spec_l13Find.l0 k x0 x1 (wrap64 (x5 + 1)))) else (none)) else (some (-1))
def spec_l13Find.f (k : Nat) (l0 : List (S52)) (a1 : ByteArray) : Option (Int) := spec_l13Find.l0 k l0 a1 0
theorem spec_l13Find.mono_l : ∀ k, (∀ y0 y1 y2, LeO (spec_l13Find.l0 k y0 y1 y2) (spec_l13Find.l0 (k + 1) y0 y1 y2))
  | 0 => fun _ _ _ r h => by simp [spec_l13Find.l0] at h
  | k + 1 => by
    have ih0 := spec_l13Find.mono_l k
    · intro y0 y1 y2
      unfold spec_l13Find.l0
      repeat' first
      | (with_reducible exact ih0 _ _ _)
      | (with_reducible exact LeO.refl _)
      | (with_reducible exact LeO.none _)
      | (with_reducible refine LeO.ite ?_ ?_)
      | (with_reducible refine LeO.bind ?_ (fun _ => ?_))
      | exact ih0 _ _ _
      | exact LeO.none _
      | refine LeO.ite ?_ ?_
      | refine LeO.bind ?_ (fun _ => ?_)
theorem spec_l13Find.mono : ∀ a0 a1 k, LeO (spec_l13Find.f k a0 a1) (spec_l13Find.f (k + 1) a0 a1) := by
  intro a0 a1 k
  have ih0 := spec_l13Find.mono_l k
  unfold spec_l13Find.f
  repeat' first
      | (with_reducible exact ih0 _ _ _)
      | (with_reducible exact LeO.refl _)
      | (with_reducible exact LeO.none _)
      | (with_reducible refine LeO.ite ?_ ?_)
      | (with_reducible refine LeO.bind ?_ (fun _ => ?_))
      | exact ih0 _ _ _
      | exact LeO.none _
      | refine LeO.ite ?_ ?_
      | refine LeO.bind ?_ (fun _ => ?_)
set_option maxHeartbeats 8000000 in
set_option maxRecDepth 100000 in
theorem spec_l13Find.calls (k : Nat) (A0 : Option Addr) (c0 : Nat) (l0 : List (S52)) (a1 : ByteArray) (r : Int) (w : World) (hr0 : Kd.C k52 w A0 l0.length l0) (hc0 : l0.length ≤ c0) (h : spec_l13Find.f k l0 a1 = some r) :
    Calls Try.prog 37 #[.slice A0 l0.length c0, .string a1] w fun e w' => e = .returned (.int .i64 r) ∧ Drawn0 w w' := by
  have HR0 := Aside0.mk hr0
  have HC0 := Aside0.mk hc0
  clear hr0 hc0
  have H : (spec_l13Find.l0 k l0 a1 0) = some r := h
  clear h
  have H' := Aside0.mk H
  clear H
  go_enter Try.func37, Try.ntmps37
  go_wp2
  go_loopg [5] k (fun kq v5 w' => ∃ (x5_1 : Int), v5 = .int .i64 x5_1 ∧ Aside0 (spec_l13Find.l0 kq l0 a1 x5_1 = some r) ∧ Aside0 (kq ≤ k) ∧ Drawn0 w w')
  case atStart => exact ⟨(0), (by first | rfl | (simp; done) | (simp [*]; done)), H', ⟨Nat.le_refl _⟩, by repeat (first | exact Drawn0.refl _ | apply Drawn0.step)⟩
  case round =>
    clear H'
    try clear p2
    obtain ⟨x5_1, rfl, HA, HK1, ⟨m1, rfl⟩⟩ := hrel
    cases gk with
    | zero => exact absurd HA.out (by simp [spec_l13Find.l0])
    | succ k1 =>
      have H := HA.out
      clear HA
      simp only [spec_l13Find.l0] at H
      by_cases c3 : x5_1 < (l0.length : Int)
      · rw [if_pos c3] at H
        have c3b0 : decide (x5_1 < (l0.length : Int)) = true := decide_eq_true c3
        clear c3
        by_cases c4 : 0 ≤ x5_1
        · rw [if_pos c4] at H
          have c4b0 : decide (0 ≤ x5_1) = true := decide_eq_true c4
          clear c4
          by_cases c5 : ((rd_T52 l0 x5_1).f0).toList = a1.toList
          · rw [if_pos c5] at H
            have c5b0 : (((rd_T52 l0 x5_1).f0).toList == a1.toList) = true := beq_iff_eq.mpr c5
            have c5b1 : (((rd_T52 l0 x5_1).f0).toList != a1.toList) = false := bne_eq_false_iff_eq.mpr c5
            clear c5
            obtain rfl := Option.some.inj H
            have p164 : 0 ≤ (x5_1 : Int) := of_decide_eq_true (by first | (with_reducible assumption) | assumption)
            have q164 : x5_1 < (l0.length : Int) := of_decide_eq_true (by first | (with_reducible assumption) | assumption)
            obtain ⟨ad164, A164_2, c164_2, e164, hx164_0, hx164_1, hx164_2, hl164_2, hi164_2⟩ := at_T52 HR0.out x5_1 p164 q164
            cases e164
            have HR164_2 := Aside0.mk hi164_2
            have HC164_2 := Aside0.mk hl164_2
            clear hi164_2 hl164_2
            replace p164 := eq_true p164
            replace q164 := eq_true q164
            go_wp2
            go_ret
            exact ⟨by first | rfl | (simp; done) | (simp [*]; done), by repeat (first | exact Drawn0.refl _ | apply Drawn0.step)⟩
          · rw [if_neg c5] at H
            have c5b0 : (((rd_T52 l0 x5_1).f0).toList == a1.toList) = false := beq_eq_false_iff_ne.mpr c5
            have c5b1 : (((rd_T52 l0 x5_1).f0).toList != a1.toList) = true := bne_iff_ne.mpr c5
            have H' := Aside0.mk H
            clear H
            have p164 : 0 ≤ (x5_1 : Int) := of_decide_eq_true (by first | (with_reducible assumption) | assumption)
            have q164 : x5_1 < (l0.length : Int) := of_decide_eq_true (by first | (with_reducible assumption) | assumption)
            obtain ⟨ad164, A164_2, c164_2, e164, hx164_0, hx164_1, hx164_2, hl164_2, hi164_2⟩ := at_T52 HR0.out x5_1 p164 q164
            cases e164
            have HR164_2 := Aside0.mk hi164_2
            have HC164_2 := Aside0.mk hl164_2
            clear hi164_2 hl164_2
            replace p164 := eq_true p164
            replace q164 := eq_true q164
            go_wp2
            go_roundg k1
            case measure => have := HK1.out; omega
            case rel => exact ⟨(wrap64 (x5_1 + 1)), (by first | rfl | (simp; done) | (simp [*]; done)), H', ⟨by have := HK1.out; omega⟩, by repeat (first | exact Drawn0.refl _ | apply Drawn0.step)⟩
        · rw [if_neg c4] at H
          exact absurd H (by simp)
      · rw [if_neg c3] at H
        have c3b0 : decide (x5_1 < (l0.length : Int)) = false := decide_eq_false c3
        clear c3
        obtain rfl := Option.some.inj H
        go_wp2
        go_ret
        exact ⟨by first | rfl | (simp; done) | (simp [*]; done), by repeat (first | exact Drawn0.refl _ | apply Drawn0.step)⟩

/-! ### spec_l13Copy: function 41 -/
def spec_l13Copy.l0 : Nat → List (S52) → List (S52) → Int → Option ((List (S52)))
  | 0, _, _, _ => none
  | k + 1, x0, x3, x4 => if x4 < (x0.length : Int) then (if 0 ≤ x4 then ((some (([] : List (S56)) : List (S56))).bind fun y170 => (if y170.length + ((rd_T52 x0 x4).f2).length < 5864062014805 then (if x3.length < 2932031007402 then (spec_l13Copy.l0 k x0 (x3 ++ [(⟨(rd_T52 x0 x4).f0, (rd_T52 x0 x4).f1, (y170 ++ ((rd_T52 x0 x4).f2))⟩ : S52)]) (wrap64 (x4 + 1))) else (none)) else (none))) else (none)) else (some x3)
def spec_l13Copy.f (k : Nat) (l0 : List (S52)) : Option ((List (S52))) := spec_l13Copy.l0 k l0 (([] : List (S52))) 0
theorem spec_l13Copy.mono_l : ∀ k, (∀ y0 y1 y2, LeO (spec_l13Copy.l0 k y0 y1 y2) (spec_l13Copy.l0 (k + 1) y0 y1 y2))
  | 0 => fun _ _ _ r h => by simp [spec_l13Copy.l0] at h
  | k + 1 => by
    have ih0 := spec_l13Copy.mono_l k
    · intro y0 y1 y2
      unfold spec_l13Copy.l0
      repeat' first
      | (with_reducible exact ih0 _ _ _)
      | (with_reducible exact LeO.refl _)
      | (with_reducible exact LeO.none _)
      | (with_reducible refine LeO.ite ?_ ?_)
      | (with_reducible refine LeO.bind ?_ (fun _ => ?_))
      | exact ih0 _ _ _
      | exact LeO.none _
      | refine LeO.ite ?_ ?_
      | refine LeO.bind ?_ (fun _ => ?_)
theorem spec_l13Copy.mono : ∀ a0 k, LeO (spec_l13Copy.f k a0) (spec_l13Copy.f (k + 1) a0) := by
  intro a0 k
  have ih0 := spec_l13Copy.mono_l k
  unfold spec_l13Copy.f
  repeat' first
      | (with_reducible exact ih0 _ _ _)
      | (with_reducible exact LeO.refl _)
      | (with_reducible exact LeO.none _)
      | (with_reducible refine LeO.ite ?_ ?_)
      | (with_reducible refine LeO.bind ?_ (fun _ => ?_))
      | exact ih0 _ _ _
      | exact LeO.none _
      | refine LeO.ite ?_ ?_
      | refine LeO.bind ?_ (fun _ => ?_)
set_option maxHeartbeats 8000000 in
set_option maxRecDepth 100000 in
theorem spec_l13Copy.calls (k : Nat) (A0 : Option Addr) (c0 : Nat) (l0 : List (S52)) (r : List (S52)) (w : World) (hr0 : Kd.C k52 w A0 l0.length l0) (hc0 : l0.length ≤ c0) (h : spec_l13Copy.f k l0 = some r) :
    Calls Try.prog 41 #[.slice A0 l0.length c0] w fun e w' => ∃ v0_ : Value, e = .returned (v0_) ∧ Kd.S k52 52 w' w.heap.size (fun _ => True) v0_ r ∧ Below w.heap.size w w' := by
  have hu52 := Try.underlying52
  have HR0 := Aside0.mk hr0
  have HC0 := Aside0.mk hc0
  clear hr0 hc0
  have HB := Aside0.mk (Below.refl w.heap.size w)
  have H : (spec_l13Copy.l0 k l0 (([] : List (S52))) 0) = some r := h
  clear h
  obtain ⟨y165, hy165⟩ : ∃ y_ : List (S52), y_ = (([] : List (S52))) := ⟨_, rfl⟩
  replace H : (spec_l13Copy.l0 k l0 y165 0) = some r := by first | (rw [hy165]; with_reducible exact H) | (have H2_ := (Option.bind_some _ _).symm.trans H; rw [hy165]; with_reducible exact H2_) | (have H2_ := (Option.bind_some _ _).symm.trans H; with_reducible exact H2_) | with_reducible exact H | (rw [hy165]; exact H) | exact H
  have Ny165 := Aside0.mk hy165
  clear hy165
  have H' := Aside0.mk H
  clear H
  go_enter Try.func41, Try.ntmps41
  go_wp2_with (first | ((with_reducible refine gate_dst (N := 6) rfl ?_); refine Kd.S_lit k52 _ 52 ?hg (N := 6) ?hd (xs := ([] : List (S52))) (inner := []) (ok := fun _ => True) (okp := fun _ => True) ?hr ?hp (fun _ hk => hk) trivial (Below.refl _ _) (Nat.le_refl _) (by simp) ?_; (case hd => rfl); (case hg => rfl); (case hr => first | (go_simp; done) | (go_simp; rfl)); (case hp => exact (Reps.none _ _)); intro v166 w2 ho3 hb hg_ hnew_; clear hg_ hnew_; (first | rw [← Ny165.out] at ho3 | (simp only [Int.reduceToNat] at ho3; rw [← Ny165.out] at ho3)); have n0_ := Aside0.mk (Kd.S_lower ho3 (below_size (by repeat (first | (with_reducible first | exact HB.out | apply below_alloc | apply pw_below_drewN | apply below_drew1) | exact HB.out)))); have n1_ := Aside0.mk (below_step (by repeat (first | (with_reducible first | exact HB.out | apply below_alloc | apply pw_below_drewN | apply below_drew1) | exact HB.out)) hb); clear HB; have HO167 := n0_; have HB := n1_; clear n0_ n1_; clear hb ho3))
  go_loopg [3, 4] k (fun kq v3 v4 w' => ∃ (x3_1 : List (S52)) (x4_1 : Int), v4 = .int .i64 x4_1 ∧ Aside0 (spec_l13Copy.l0 kq l0 x3_1 x4_1 = some r) ∧ Aside0 (kq ≤ k) ∧ Aside0 (Kd.S k52 52 w' w.heap.size (fun _ => True) v3 x3_1) ∧ Aside0 (Below w.heap.size w w'))
  case atStart => exact ⟨(y165), (0), (by first | rfl | (simp; done) | (simp [*]; done)), H', ⟨Nat.le_refl _⟩, ⟨by (with_reducible repeat (first | apply Kd.S_alloc | apply Kd.S_drewN | apply Kd.S_drew)); exact HO167.out⟩, ⟨by repeat (first | (with_reducible first | exact HB.out | apply below_alloc | apply pw_below_drewN | apply below_drew1) | exact HB.out)⟩⟩
  case round =>
    clear H'
    try clear p2
    obtain ⟨x3_1, x4_1, rfl, HA, HK1, HO_3, HB⟩ := hrel
    cases gk with
    | zero => exact absurd HA.out (by simp [spec_l13Copy.l0])
    | succ k1 =>
      have H := HA.out
      clear HA
      simp only [spec_l13Copy.l0] at H
      by_cases c4 : x4_1 < (l0.length : Int)
      · rw [if_pos c4] at H
        have c4b0 : decide (x4_1 < (l0.length : Int)) = true := decide_eq_true c4
        clear c4
        by_cases c5 : 0 ≤ x4_1
        · rw [if_pos c5] at H
          have c5b0 : decide (0 ≤ x4_1) = true := decide_eq_true c5
          clear c5
          obtain ⟨y170, hy170⟩ : ∃ y_ : List (S56), y_ = (([] : List (S56))) := ⟨_, rfl⟩
          replace H : (if y170.length + ((rd_T52 l0 x4_1).f2).length < 5864062014805 then (if x3_1.length < 2932031007402 then (spec_l13Copy.l0 k1 l0 (x3_1 ++ [(⟨(rd_T52 l0 x4_1).f0, (rd_T52 l0 x4_1).f1, (y170 ++ ((rd_T52 l0 x4_1).f2))⟩ : S52)]) (wrap64 (x4_1 + 1))) else (none)) else (none)) = some r := by first | (rw [hy170]; with_reducible exact H) | (have H2_ := (Option.bind_some _ _).symm.trans H; rw [hy170]; with_reducible exact H2_) | (have H2_ := (Option.bind_some _ _).symm.trans H; with_reducible exact H2_) | with_reducible exact H | (rw [hy170]; exact H) | exact H
          have Ny170 := Aside0.mk hy170
          clear hy170
          by_cases c6 : y170.length + ((rd_T52 l0 x4_1).f2).length < 5864062014805
          · rw [if_pos c6] at H
            have LMc6 := Aside0.mk c6
            clear c6
            obtain ⟨y173, hy173⟩ : ∃ y_ : List (S56), y_ = (y170 ++ ((rd_T52 l0 x4_1).f2)) := ⟨_, rfl⟩
            replace H : (if x3_1.length < 2932031007402 then (spec_l13Copy.l0 k1 l0 (x3_1 ++ [(⟨(rd_T52 l0 x4_1).f0, (rd_T52 l0 x4_1).f1, y173⟩ : S52)]) (wrap64 (x4_1 + 1))) else (none)) = some r := by first | (rw [hy173]; with_reducible exact H) | (have H2_ := (Option.bind_some _ _).symm.trans H; rw [hy173]; with_reducible exact H2_) | (have H2_ := (Option.bind_some _ _).symm.trans H; with_reducible exact H2_) | with_reducible exact H | (rw [hy173]; exact H) | exact H
            have Ny173 := Aside0.mk hy173
            clear hy173
            by_cases c7 : x3_1.length < 2932031007402
            · rw [if_pos c7] at H
              have LMc7 := Aside0.mk c7
              clear c7
              obtain ⟨y176, hy176⟩ : ∃ y_ : List (S52), y_ = (x3_1 ++ [(⟨(rd_T52 l0 x4_1).f0, (rd_T52 l0 x4_1).f1, y173⟩ : S52)]) := ⟨_, rfl⟩
              replace H : (spec_l13Copy.l0 k1 l0 y176 (wrap64 (x4_1 + 1))) = some r := by first | (rw [hy176]; with_reducible exact H) | (have H2_ := (Option.bind_some _ _).symm.trans H; rw [hy176]; with_reducible exact H2_) | (have H2_ := (Option.bind_some _ _).symm.trans H; with_reducible exact H2_) | with_reducible exact H | (rw [hy176]; exact H) | exact H
              have Ny176 := Aside0.mk hy176
              clear hy176
              have H' := Aside0.mk H
              clear H
              have p168 : 0 ≤ (x4_1 : Int) := of_decide_eq_true (by first | (with_reducible assumption) | assumption)
              have q168 : x4_1 < (l0.length : Int) := of_decide_eq_true (by first | (with_reducible assumption) | assumption)
              obtain ⟨ad168, A168_2, c168_2, e168, hx168_0, hx168_1, hx168_2, hl168_2, hi168_2⟩ := at_T52 HR0.out x4_1 p168 q168
              cases e168
              try (replace hx168_0 := (HB.out.cell (World.block_lt_of_cell? w _ hx168_0)).trans hx168_0)
              try (replace hx168_1 := (HB.out.cell (World.block_lt_of_cell? w _ hx168_1)).trans hx168_1)
              try (replace hx168_2 := (HB.out.cell (World.block_lt_of_cell? w _ hx168_2)).trans hx168_2)
              have HR168_2 := Aside0.mk hi168_2
              have HC168_2 := Aside0.mk hl168_2
              clear hi168_2 hl168_2
              replace p168 := eq_true p168
              replace q168 := eq_true q168
              go_wp2_with (first | ((with_reducible refine gate_dst (N := 5) rfl ?_); refine box_event ?hg (N := 5) ?hd (cs := #[.string (⟨#[]⟩ : ByteArray), .int .i64 0, .slice none 0 0]) (t := 52) ?hr ?_; (case hd => rfl); (case hg => rfl); (case hr => first | (go_simp; done) | (go_simp; rfl) | (obtain ⟨_, _, e_⟩ := Kd.R_slice HO175.out; subst e_; first | (go_simp; done) | (go_simp; rfl))); intro gb169 hg w8 hbox hb; have n0_ := Aside0.mk (Kd.S_below (Kd.S_elderB (by (with_reducible repeat (first | apply Kd.S_alloc | apply Kd.S_drewN | apply Kd.S_drew)); exact HO_3.out) gb169 (Nat.le_of_eq hg.symm)) hb); have n1_ := Aside0.mk (below_step (by repeat (first | (with_reducible first | exact HB.out | apply below_alloc | apply pw_below_drewN | apply below_drew1) | exact HB.out)) hb); have n2_ := Aside0.mk (hbox); have n3_ := Aside0.mk ((by rw [hg]; exact (below_size (by repeat (first | (with_reducible first | exact HB.out | apply below_alloc | apply pw_below_drewN | apply below_drew1) | exact HB.out))) : w.heap.size ≤ gb169)); have n4_ := Aside0.mk ((by rw [hg]; exact (below_size (by repeat (first | (with_reducible first | exact HB.out | apply below_alloc | apply pw_below_drewN | apply below_drew1) | exact HB.out))) : w.heap.size ≤ gb169)); clear HO_3; clear HB; have HO_3 := n0_; have HB := n1_; have BK169 := n2_; have GW169 := n3_; have GE169 := n4_; clear n0_ n1_ n2_ n3_ n4_; clear hb hbox hg; have hcz9_0 : w8.cell? ⟨gb169, 0, none⟩ = some (.string (⟨#[]⟩ : ByteArray)) := (blk_cell BK169.out 0).trans rfl; have hcz9_1 : w8.cell? ⟨gb169, 1, none⟩ = some (.int .i64 0) := (blk_cell BK169.out 1).trans rfl; have hcz9_2 : w8.cell? ⟨gb169, 2, none⟩ = some (.slice none 0 0) := (blk_cell BK169.out 2).trans rfl; have hfz9_0 := blk_frozen BK169.out 0; have hfz9_1 := blk_frozen BK169.out 1; have hfz9_2 := blk_frozen BK169.out 2) | ((with_reducible refine gate_dst (N := 17) rfl ?_); refine Kd.R_lit k56 _ 56 ?hg (N := 17) ?hd (xs := ([] : List (S56))) (inner := []) (ok := fun _ => True) (okp := fun _ => True) ?hr ?hp (fun _ hk => hk) trivial (Below.refl _ _) (Nat.le_refl _) (by simp) ?_; (case hd => rfl); (case hg => rfl); (case hr => first | (go_simp; done) | (go_simp; rfl) | (obtain ⟨_, _, e_⟩ := Kd.R_slice HO175.out; subst e_; first | (go_simp; done) | (go_simp; rfl))); (case hp => exact (Reps.none _ _)); intro v171 w10 ho11 hb hg_ hnew_; clear hg_ hnew_; (first | rw [← Ny170.out] at ho11 | (simp only [Int.reduceToNat] at ho11; rw [← Ny170.out] at ho11)); have n0_ := Aside0.mk (Kd.S_elder' (by (with_reducible repeat (first | apply Kd.S_alloc | apply Kd.S_drewN | apply Kd.S_drew)); exact (Kd.S_mono (Kd.S_far (p := ⟨gb169, 2, none⟩) (Kd.S_far (p := ⟨gb169, 1, none⟩) (Kd.S_far (p := ⟨gb169, 0, none⟩) (Kd.S_mono HO_3.out (fun k_ hk => (⟨hk, hk.2⟩ : _ ∧ k_ ≠ gb169))) (fun _ hk => hk.2) (.string ((rd_T52 l0 x4_1).f0))) (fun _ hk => hk.2) (.int .i64 ((rd_T52 l0 x4_1).f1))) (fun _ hk => hk.2) (.slice A168_2 ((rd_T52 l0 x4_1).f2).length c168_2)) (fun _ h_ => h_.1))) (Kd.R_base ho11) hb); have n1_ := Aside0.mk (Kd.R_lower ho11 (below_size (by repeat (first | (with_reducible first | exact HB.out | apply below_alloc | apply pw_below_drewN | apply below_drew1 | refine below_set ?_ GE169.out) | exact HB.out)))); have n2_ := Aside0.mk (blk_below (g := gb169) (o := .cells #[.string ((rd_T52 l0 x4_1).f0), .int .i64 ((rd_T52 l0 x4_1).f1), .slice A168_2 ((rd_T52 l0 x4_1).f2).length c168_2] 52 (0, 0)) (by (with_reducible repeat (first | refine blk_drewN ?_ _ | refine blk_drew ?_ | refine blk_alloc ?_ _)); refine blk_put (cs := #[.string ((rd_T52 l0 x4_1).f0), .int .i64 ((rd_T52 l0 x4_1).f1), .slice none 0 0]) ?_ 2 _ rfl; (with_reducible repeat (first | refine blk_drewN ?_ _ | refine blk_drew ?_ | refine blk_alloc ?_ _)); refine blk_put (cs := #[.string ((rd_T52 l0 x4_1).f0), .int .i64 0, .slice none 0 0]) ?_ 1 _ rfl; (with_reducible repeat (first | refine blk_drewN ?_ _ | refine blk_drew ?_ | refine blk_alloc ?_ _)); refine blk_put (cs := #[.string (⟨#[]⟩ : ByteArray), .int .i64 0, .slice none 0 0]) ?_ 0 _ rfl; (with_reducible repeat (first | refine blk_drewN ?_ _ | refine blk_drew ?_ | refine blk_alloc ?_ _)); exact BK169.out) hb); have n3_ := Aside0.mk (below_step (by repeat (first | (with_reducible first | exact HB.out | apply below_alloc | apply pw_below_drewN | apply below_drew1 | refine below_set ?_ GE169.out) | exact HB.out)) hb); clear HO_3; clear BK169; clear HB; have HO_3 := n0_; have HO172 := n1_; have BK169 := n2_; have HB := n3_; clear n0_ n1_ n2_ n3_; clear hb ho11; have hcz12_0 : w10.cell? ⟨gb169, 0, none⟩ = some (.string ((rd_T52 l0 x4_1).f0)) := (blk_cell BK169.out 0).trans rfl; have hcz12_1 : w10.cell? ⟨gb169, 1, none⟩ = some (.int .i64 ((rd_T52 l0 x4_1).f1)) := (blk_cell BK169.out 1).trans rfl; have hcz12_2 : w10.cell? ⟨gb169, 2, none⟩ = some (.slice A168_2 ((rd_T52 l0 x4_1).f2).length c168_2) := (blk_cell BK169.out 2).trans rfl; have hfz12_0 := blk_frozen BK169.out 0; have hfz12_1 := blk_frozen BK169.out 1; have hfz12_2 := blk_frozen BK169.out 2) | ((with_reducible refine gate_builtin (b := .append) (xs := #[.tmp 17, .tmp 19]) rfl ?_); at_builtin; refine Kd.R_append_rows k56 (w0 := w) w.heap.size rfl (.tmp 17) (.tmp 19) 50 56 (.agg #[(.int .i64 0), (.string ⟨#[]⟩)]) 24 rfl Try.underlying50 info56 rfl (by decide) (by omega) v171 y170 ((rd_T52 l0 x4_1).f2) _ _ _ (fun _ => True) (fun _ => False) rfl rfl ?aO ?aR (fun _ _ h => h) (fun _ h => h.elim) ?aF ?aB ?aS ?aL ?_; (case aR => repeat (first | exact (Kd.C_below HR168_2.out HB.out) | (with_reducible refine Kd.C_alloc ?_ _) | (with_reducible refine Kd.C_drewN ?_ _) | (with_reducible refine Kd.C_drew ?_))); (case aB => exact (by repeat (first | (with_reducible first | exact HB.out | apply below_alloc | apply pw_below_drewN | apply below_drew1 | refine below_set ?_ GE169.out) | exact HB.out))); (case aF => exact (fun _ _ => trivial)); (case aO => exact (by (with_reducible repeat (first | apply Kd.R_alloc | apply Kd.R_drewN | apply Kd.R_drew)); exact HO172.out)); (case aS => exact (below_size (by repeat (first | (with_reducible first | exact HB.out | apply below_alloc | apply pw_below_drewN | apply below_drew1 | refine below_set ?_ GE169.out) | exact HB.out)))); (case aL => have := LMc6.out; omega); intro v174 w13 ho hb hg hat; rw [← Ny173.out] at ho; have n0_ := Aside0.mk (Kd.S_after (ok := (fun k_ => k_ ≠ gb169)) (by (with_reducible repeat (first | apply Kd.S_alloc | apply Kd.S_drewN | apply Kd.S_drew)); exact Kd.S_mono HO_3.out (fun _ hk => ⟨hk.1.2, hk.2⟩)) hg hat); have n1_ := Aside0.mk (blk_grown (g := gb169) (o := .cells #[.string ((rd_T52 l0 x4_1).f0), .int .i64 ((rd_T52 l0 x4_1).f1), .slice A168_2 ((rd_T52 l0 x4_1).f2).length c168_2] 52 (0, 0)) (by (with_reducible repeat (first | refine blk_drewN ?_ _ | refine blk_drew ?_ | refine blk_alloc ?_ _)); exact BK169.out) hg (Kd.R_ne HO172.out BK169.out (by decide))); have n2_ := Aside0.mk (hb); have n3_ := Aside0.mk (ho); clear HO_3; clear BK169; clear HB; clear HO172; have HO_3 := n0_; have BK169 := n1_; have HB := n2_; have HO175 := n3_; clear n0_ n1_ n2_ n3_; clear ho hb hg hat; obtain ⟨Ao14, co14, eo14⟩ := Kd.R_slice HO175.out; subst eo14; have hcz15_0 : w13.cell? ⟨gb169, 0, none⟩ = some (.string ((rd_T52 l0 x4_1).f0)) := (blk_cell BK169.out 0).trans rfl; have hcz15_1 : w13.cell? ⟨gb169, 1, none⟩ = some (.int .i64 ((rd_T52 l0 x4_1).f1)) := (blk_cell BK169.out 1).trans rfl; have hcz15_2 : w13.cell? ⟨gb169, 2, none⟩ = some (.slice A168_2 ((rd_T52 l0 x4_1).f2).length c168_2) := (blk_cell BK169.out 2).trans rfl; have hfz15_0 := blk_frozen BK169.out 0; have hfz15_1 := blk_frozen BK169.out 1; have hfz15_2 := blk_frozen BK169.out 2) | ((with_reducible refine gate_store (t := 50) (p := 21) rfl ?_); refine store_event (t := 50) (p := 21) (v := ?vo_w16) (w1 := (w13.setCell ⟨gb169, 2, none⟩ (.slice Ao14 y173.length co14))) ?hg ?ho ?hn ?hr ?_; (case ho => rfl); (case hg => rfl); (case hn => rfl); (case hr => first | (go_simp; done) | (go_simp; rfl) | (obtain ⟨_, _, e_⟩ := Kd.R_slice HO175.out; subst e_; first | (go_simp; done) | (go_simp; rfl))); intro w16 hw; have n0_ : Aside0 (Kd.S k52 52 w16 w.heap.size (fun k_ => some k_ ≠ (.slice Ao14 y173.length co14 : Value).ownBlock ∧ k_ ≠ gb169) u3 x3_1) := ⟨(by rw [hw]; exact (by (with_reducible repeat (first | apply Kd.S_alloc | apply Kd.S_drewN | apply Kd.S_drew)); exact Kd.S_mono (Kd.S_far (p := ⟨gb169, 2, none⟩) (Kd.S_mono HO_3.out (fun k_ hk => (⟨hk, hk.1⟩ : _ ∧ k_ ≠ gb169))) (fun _ hk => hk.2) (.slice Ao14 y173.length co14)) (fun _ hk => ⟨hk.1.2, hk.1.1⟩)))⟩; have n1_ : Aside0 (Kd.R k56 56 w16 w.heap.size (fun _ => True) (.slice Ao14 y173.length co14) y173) := ⟨(by rw [hw]; exact (by (with_reducible repeat (first | apply Kd.R_alloc | apply Kd.R_drewN | apply Kd.R_drew)); exact Kd.R_mono (Kd.R_far (p := ⟨gb169, 2, none⟩) (Kd.R_types HO175.out BK169.out (by decide)) (fun _ hk => hk.2) (.slice Ao14 y173.length co14)) (fun _ hk => trivial)))⟩; have n2_ : Aside0 (w16.heap[gb169]? = some (.cells #[.string ((rd_T52 l0 x4_1).f0), .int .i64 ((rd_T52 l0 x4_1).f1), .slice Ao14 y173.length co14] 52 (0, 0))) := ⟨(by rw [hw]; exact (by (with_reducible repeat (first | refine blk_drewN ?_ _ | refine blk_drew ?_ | refine blk_alloc ?_ _)); refine blk_put (cs := #[.string ((rd_T52 l0 x4_1).f0), .int .i64 ((rd_T52 l0 x4_1).f1), .slice A168_2 ((rd_T52 l0 x4_1).f2).length c168_2]) ?_ 2 _ rfl; (with_reducible repeat (first | refine blk_drewN ?_ _ | refine blk_drew ?_ | refine blk_alloc ?_ _)); exact BK169.out))⟩; have n3_ : Aside0 (Below w.heap.size w w16) := ⟨(by rw [hw]; exact (by repeat (first | (with_reducible first | exact HB.out | apply below_alloc | apply pw_below_drewN | apply below_drew1 | refine below_set ?_ GE169.out) | exact HB.out)))⟩; clear hw; clear HO_3; clear HO175; clear BK169; clear HB; have HO_3 := n0_; have HO175 := n1_; have BK169 := n2_; have HB := n3_; clear n0_ n1_ n2_ n3_; have hcz17_0 : w16.cell? ⟨gb169, 0, none⟩ = some (.string ((rd_T52 l0 x4_1).f0)) := (blk_cell BK169.out 0).trans rfl; have hcz17_1 : w16.cell? ⟨gb169, 1, none⟩ = some (.int .i64 ((rd_T52 l0 x4_1).f1)) := (blk_cell BK169.out 1).trans rfl; have hcz17_2 : w16.cell? ⟨gb169, 2, none⟩ = some (.slice Ao14 y173.length co14) := (blk_cell BK169.out 2).trans rfl; have hfz17_0 := blk_frozen BK169.out 0; have hfz17_1 := blk_frozen BK169.out 1; have hfz17_2 := blk_frozen BK169.out 2) | ((with_reducible refine gate_builtin (b := .append) (xs := #[.tmp 22, .tmp 24]) rfl ?_); at_builtin; refine Kd.S_append k52 (w0 := w) w.heap.size rfl (.tmp 22) (.tmp 24) 25 52 (.agg #[(.string ⟨#[]⟩), (.int .i64 0), (.slice none 0 0)]) 48 rfl Try.underlying25 info52 rfl (by decide) (by omega) u3 x3_1 (⟨(rd_T52 l0 x4_1).f0, (rd_T52 l0 x4_1).f1, y173⟩ : S52) [.string ((rd_T52 l0 x4_1).f0), .int .i64 ((rd_T52 l0 x4_1).f1), .slice Ao14 y173.length co14] (fun k_ => k_ ≠ gb169) (fun k_ => some k_ = (.slice Ao14 y173.length co14 : Value).ownBlock) rfl rfl ?aP (fun k_ hk_ => ((Kd.R_mono (ok' := fun k_ => ((fun k_ => k_ ≠ gb169)) k_ ∧ some k_ ≠ (u3 : Value).ownBlock) (Kd.R_types (Kd.R_apart' (HO175.out) (Kd.S_typed HO_3.out) (by decide)) BK169.out (by decide)) (fun k_ hk => ⟨hk.2, hk.1.2⟩))).1 k_ hk_.symm) ?aF ?aO ?aB ?aS ?aL ?_; (case aP => exact k52_mkM _ _ _ (⟨(rd_T52 l0 x4_1).f0, (rd_T52 l0 x4_1).f1, y173⟩ : S52) (Kd.R_mono (Kd.R_tight rfl (Kd.R_mono (ok' := fun k_ => ((fun k_ => k_ ≠ gb169)) k_ ∧ some k_ ≠ (u3 : Value).ownBlock) (Kd.R_types (Kd.R_apart' (HO175.out) (Kd.S_typed HO_3.out) (by decide)) BK169.out (by decide)) (fun k_ hk => ⟨hk.2, hk.1.2⟩))) (fun _ h_ => h_))); (case aB => exact (by repeat (first | (with_reducible first | exact HB.out | apply below_alloc | apply pw_below_drewN | apply below_drew1 | refine below_set ?_ GE169.out) | exact HB.out))); (case aF => exact (fun k_ hk => Kd.freshB (g := gb169) (o := .cells #[.string ((rd_T52 l0 x4_1).f0), .int .i64 ((rd_T52 l0 x4_1).f1), .slice Ao14 y173.length co14] 52 (0, 0)) (by (with_reducible repeat (first | refine blk_drewN ?_ _ | refine blk_drew ?_ | refine blk_alloc ?_ _)); exact BK169.out) k_ hk)); (case aO => exact (by (with_reducible repeat (first | apply Kd.S_alloc | apply Kd.S_drewN | apply Kd.S_drew)); exact Kd.S_mono HO_3.out (fun k_ hk => ⟨hk.2, fun e_ => hk.1 e_⟩))); (case aS => exact (below_size (by repeat (first | (with_reducible first | exact HB.out | apply below_alloc | apply pw_below_drewN | apply below_drew1 | refine below_set ?_ GE169.out) | exact HB.out)))); (case aL => have := LMc7.out; omega); intro v177 w18 ho hb hg hat; rw [← Ny176.out] at ho; have n0_ := Aside0.mk (blk_grown (g := gb169) (o := .cells #[.string ((rd_T52 l0 x4_1).f0), .int .i64 ((rd_T52 l0 x4_1).f1), .slice Ao14 y173.length co14] 52 (0, 0)) (by (with_reducible repeat (first | refine blk_drewN ?_ _ | refine blk_drew ?_ | refine blk_alloc ?_ _)); exact BK169.out) hg (Kd.S_away HO_3.out (fun _ hk => hk.2))); have n1_ := Aside0.mk (hb); have n2_ := Aside0.mk (ho); clear BK169; clear HB; clear HO_3; clear HO175; have BK169 := n0_; have HB := n1_; have HO178 := n2_; clear n0_ n1_ n2_; clear ho hb hg hat))
              go_roundg k1
              case measure => have := HK1.out; omega
              case rel => exact ⟨(y176), (wrap64 (x4_1 + 1)), (by first | rfl | (simp; done) | (simp [*]; done)), H', ⟨by have := HK1.out; omega⟩, ⟨by (with_reducible repeat (first | apply Kd.S_alloc | apply Kd.S_drewN | apply Kd.S_drew)); exact Kd.S_mono HO178.out (fun _ hk => trivial)⟩, ⟨by repeat (first | (with_reducible first | exact HB.out | apply below_alloc | apply pw_below_drewN | apply below_drew1 | refine below_set ?_ GE169.out) | exact HB.out)⟩⟩
            · rw [if_neg c7] at H
              exact absurd H (by simp)
          · rw [if_neg c6] at H
            exact absurd H (by simp)
        · rw [if_neg c5] at H
          exact absurd H (by simp)
      · rw [if_neg c4] at H
        have c4b0 : decide (x4_1 < (l0.length : Int)) = false := decide_eq_false c4
        clear c4
        obtain rfl := Option.some.inj H
        go_wp2
        go_ret
        exact ⟨_, by first | rfl | (simp [errW_none, errW_some] <;> rfl) | (simp [*, errW_none, errW_some] <;> rfl), by (with_reducible repeat (first | apply Kd.S_alloc | apply Kd.S_drewN | apply Kd.S_drew)); exact HO_3.out, by repeat (first | (with_reducible first | exact HB.out | apply below_alloc | apply pw_below_drewN | apply below_drew1) | exact HB.out)⟩

/-! ### spec_Rollback: function 16 -/
def spec_Rollback.f (k : Nat) (l0 : List (S52)) (a1 : ByteArray) : Option ((List (S52)) × Bool) := (spec_ProfilesOk.f k l0).bind fun t179 => (if t179 = true then ((spec_l13Copy.f k l0).bind fun t183 => ((spec_l13Find.f k t183 a1).bind fun t186 => (if t186 < 0 then (some (t183, false)) else (if 0 ≤ t186 then (if t186 < (t183.length : Int) then ((spec_l13Gen.f k ((rd_T52 t183 t186).f0) ((rd_T52 t183 t186).f1) ((rd_T52 t183 t186).f2) ((rd_T52 t183 t186).f1)).bind fun t189 => (if t189 < 1 then (some (t183, false)) else (if 0 ≤ (wrap64 (t189 - 1)) then (if (wrap64 (t189 - 1)) < (((rd_T52 t183 t186).f2).length : Int) then (some ((t183.set (t186 : Int).toNat (⟨(rd_T52 t183 t186).f0, (rd_T56 ((rd_T52 t183 t186).f2) (wrap64 (t189 - 1))).f0, (rd_T52 t183 t186).f2⟩ : S52)), true)) else (none)) else (none)))) else (none)) else (none))))) else (some ((([] : List (S52))), false)))
theorem spec_Rollback.mono : ∀ a0 a1 k, LeO (spec_Rollback.f k a0 a1) (spec_Rollback.f (k + 1) a0 a1) := by
  intro a0 a1 k
  unfold spec_Rollback.f
  repeat' first
      | (with_reducible exact spec_ProfilesOk.mono _ _)
      | (with_reducible exact spec_l13Copy.mono _ _)
      | (with_reducible exact spec_l13Find.mono _ _ _)
      | (with_reducible exact spec_l13Gen.mono _ _ _ _ _)
      | (with_reducible exact LeO.refl _)
      | (with_reducible exact LeO.none _)
      | (with_reducible refine LeO.ite ?_ ?_)
      | (with_reducible refine LeO.bind ?_ (fun _ => ?_))
      | exact spec_ProfilesOk.mono _ _
      | exact spec_l13Copy.mono _ _
      | exact spec_l13Find.mono _ _ _
      | exact spec_l13Gen.mono _ _ _ _ _
      | exact LeO.none _
      | refine LeO.ite ?_ ?_
      | refine LeO.bind ?_ (fun _ => ?_)
def spec_Rollback.T7 : Bool × List (List Nat × List Nat) := (true, [([], []), ([], []), ([0, 1], [0, 1]), ([2], [2]), ([], []), ([], []), ([4, 5], [4, 5]), ([6], [6]), ([7], [7]), ([3, 8], [3, 8]), ([9, 9, 0, 1, 2, 3, 4, 5, 6, 7, 8, 9], [9])])
def spec_Rollback.B7 : List Nat := [0, 0, 3, 7, 0, 0, 48, 112, 240, 511, 1023]
theorem spec_Rollback.tab7 : rtab .any (opsOf Try.f16 7) = spec_Rollback.T7 := by kernel_rfl
theorem spec_Rollback.bits7 : waitsOk spec_Rollback.T7.2 spec_Rollback.B7 = true := by kernel_rfl
set_option maxHeartbeats 8000000 in
set_option maxRecDepth 100000 in
theorem spec_Rollback.calls (k : Nat) (A0 : Option Addr) (c0 : Nat) (l0 : List (S52)) (a1 : ByteArray) (r1 : List (S52)) (r2 : Bool) (w : World) (hr0 : Kd.C k52 w A0 l0.length l0) (hc0 : l0.length ≤ c0) (h : spec_Rollback.f k l0 a1 = some (r1, r2)) :
    Calls Try.prog 16 #[.slice A0 l0.length c0, .string a1] w fun e w' => ∃ v0_ : Value, e = .returned (.tuple #[v0_, .bool r2]) ∧ Kd.S k52 52 w' w.heap.size (fun _ => True) v0_ r1 ∧ Below w.heap.size w w' := by
  have hu52 := Try.underlying52
  have HR0 := Aside0.mk hr0
  have HC0 := Aside0.mk hc0
  clear hr0 hc0
  have HB := Aside0.mk (Below.refl w.heap.size w)
  have H : ((spec_ProfilesOk.f k l0).bind fun t179 => (if t179 = true then ((spec_l13Copy.f k l0).bind fun t183 => ((spec_l13Find.f k t183 a1).bind fun t186 => (if t186 < 0 then (some (t183, false)) else (if 0 ≤ t186 then (if t186 < (t183.length : Int) then ((spec_l13Gen.f k ((rd_T52 t183 t186).f0) ((rd_T52 t183 t186).f1) ((rd_T52 t183 t186).f2) ((rd_T52 t183 t186).f1)).bind fun t189 => (if t189 < 1 then (some (t183, false)) else (if 0 ≤ (wrap64 (t189 - 1)) then (if (wrap64 (t189 - 1)) < (((rd_T52 t183 t186).f2).length : Int) then (some ((t183.set (t186 : Int).toNat (⟨(rd_T52 t183 t186).f0, (rd_T56 ((rd_T52 t183 t186).f2) (wrap64 (t189 - 1))).f0, (rd_T52 t183 t186).f2⟩ : S52)), true)) else (none)) else (none)))) else (none)) else (none))))) else (some ((([] : List (S52))), false)))) = some (r1, r2) := h
  clear h
  replace H := Option.bind_eq_some_iff.mp H
  obtain ⟨t179, A30, H⟩ := H
  replace H : (if t179 = true then ((spec_l13Copy.f k l0).bind fun t183 => ((spec_l13Find.f k t183 a1).bind fun t186 => (if t186 < 0 then (some (t183, false)) else (if 0 ≤ t186 then (if t186 < (t183.length : Int) then ((spec_l13Gen.f k ((rd_T52 t183 t186).f0) ((rd_T52 t183 t186).f1) ((rd_T52 t183 t186).f2) ((rd_T52 t183 t186).f1)).bind fun t189 => (if t189 < 1 then (some (t183, false)) else (if 0 ≤ (wrap64 (t189 - 1)) then (if (wrap64 (t189 - 1)) < (((rd_T52 t183 t186).f2).length : Int) then (some ((t183.set (t186 : Int).toNat (⟨(rd_T52 t183 t186).f0, (rd_T56 ((rd_T52 t183 t186).f2) (wrap64 (t189 - 1))).f0, (rd_T52 t183 t186).f2⟩ : S52)), true)) else (none)) else (none)))) else (none)) else (none))))) else (some ((([] : List (S52))), false))) = some (r1, r2) := H
  have A3 := Aside0.mk A30
  clear A30
  by_cases c4 : t179 = true
  · subst c4
    have H1 : ((spec_l13Copy.f k l0).bind fun t183 => ((spec_l13Find.f k t183 a1).bind fun t186 => (if t186 < 0 then (some (t183, false)) else (if 0 ≤ t186 then (if t186 < (t183.length : Int) then ((spec_l13Gen.f k ((rd_T52 t183 t186).f0) ((rd_T52 t183 t186).f1) ((rd_T52 t183 t186).f2) ((rd_T52 t183 t186).f1)).bind fun t189 => (if t189 < 1 then (some (t183, false)) else (if 0 ≤ (wrap64 (t189 - 1)) then (if (wrap64 (t189 - 1)) < (((rd_T52 t183 t186).f2).length : Int) then (some ((t183.set (t186 : Int).toNat (⟨(rd_T52 t183 t186).f0, (rd_T56 ((rd_T52 t183 t186).f2) (wrap64 (t189 - 1))).f0, (rd_T52 t183 t186).f2⟩ : S52)), true)) else (none)) else (none)))) else (none)) else (none))))) = some (r1, r2) := by rw [if_pos rfl] at H; exact H
    clear H
    have H := H1
    clear H1
    replace H := Option.bind_eq_some_iff.mp H
    obtain ⟨t183, A50, H⟩ := H
    replace H : ((spec_l13Find.f k t183 a1).bind fun t186 => (if t186 < 0 then (some (t183, false)) else (if 0 ≤ t186 then (if t186 < (t183.length : Int) then ((spec_l13Gen.f k ((rd_T52 t183 t186).f0) ((rd_T52 t183 t186).f1) ((rd_T52 t183 t186).f2) ((rd_T52 t183 t186).f1)).bind fun t189 => (if t189 < 1 then (some (t183, false)) else (if 0 ≤ (wrap64 (t189 - 1)) then (if (wrap64 (t189 - 1)) < (((rd_T52 t183 t186).f2).length : Int) then (some ((t183.set (t186 : Int).toNat (⟨(rd_T52 t183 t186).f0, (rd_T56 ((rd_T52 t183 t186).f2) (wrap64 (t189 - 1))).f0, (rd_T52 t183 t186).f2⟩ : S52)), true)) else (none)) else (none)))) else (none)) else (none)))) = some (r1, r2) := H
    have A5 := Aside0.mk A50
    clear A50
    replace H := Option.bind_eq_some_iff.mp H
    obtain ⟨t186, A60, H⟩ := H
    replace H : (if t186 < 0 then (some (t183, false)) else (if 0 ≤ t186 then (if t186 < (t183.length : Int) then ((spec_l13Gen.f k ((rd_T52 t183 t186).f0) ((rd_T52 t183 t186).f1) ((rd_T52 t183 t186).f2) ((rd_T52 t183 t186).f1)).bind fun t189 => (if t189 < 1 then (some (t183, false)) else (if 0 ≤ (wrap64 (t189 - 1)) then (if (wrap64 (t189 - 1)) < (((rd_T52 t183 t186).f2).length : Int) then (some ((t183.set (t186 : Int).toNat (⟨(rd_T52 t183 t186).f0, (rd_T56 ((rd_T52 t183 t186).f2) (wrap64 (t189 - 1))).f0, (rd_T52 t183 t186).f2⟩ : S52)), true)) else (none)) else (none)))) else (none)) else (none))) = some (r1, r2) := H
    have A6 := Aside0.mk A60
    clear A60
    by_cases c7 : t186 < 0
    · rw [if_pos c7] at H
      have c7b0 : decide (t186 < 0) = true := decide_eq_true c7
      clear c7
      simp only [Option.some.injEq, Prod.mk.injEq] at H
      obtain ⟨rfl, rfl⟩ := H
      go_enter Try.func16, Try.ntmps16
      go_wp2_with (first | ((with_reducible refine gate_callee (f := 10) rfl ?_); refine goesL_ (some 10) rfl rfl Try.func10 (by kernel_rfl) rfl #[.slice A0 l0.length c0] rfl (by (try simp only [List.map_toArray, List.map_cons, List.map_nil]); first | done | rfl | (simp only [List.length_drop, List.length_take]; rfl)) ?_; (with_reducible refine (spec_ProfilesOk.calls k _ _ l0 true _ ?side1 ?side2 A3.out).mono ?_); (case side1 => repeat (first | exact HR0.out | (with_reducible refine Kd.C_alloc ?_ _) | (with_reducible refine Kd.C_drewN ?_ _) | (with_reducible refine Kd.C_drew ?_))); (case side2 => exact HC0.out); rintro e w8 ⟨rfl, hb⟩; refine ⟨_, rfl, ?_⟩; have n0_ := Aside0.mk (below_step (by repeat (first | (with_reducible first | exact HB.out | apply below_alloc | apply pw_below_drewN | apply below_drew1) | exact HB.out)) hb); clear HB; have HB := n0_; clear n0_; (try clear hb); (try clear hb2); (try clear hk); (try clear hi)) | ((with_reducible refine gate_callee (f := 41) rfl ?_); refine goesL_ (some 14) rfl rfl Try.func41 (by kernel_rfl) rfl #[.slice A0 l0.length c0] rfl (by (try simp only [List.map_toArray, List.map_cons, List.map_nil]); first | done | rfl | (simp only [List.length_drop, List.length_take]; rfl)) ?_; (with_reducible refine (spec_l13Copy.calls k _ _ l0 t183 _ ?side1 ?side2 A5.out).mono ?_); (case side1 => repeat (first | exact (Kd.C_below HR0.out HB.out) | (with_reducible refine Kd.C_alloc ?_ _) | (with_reducible refine Kd.C_drewN ?_ _) | (with_reducible refine Kd.C_drew ?_))); (case side2 => exact HC0.out); rintro e w9 ⟨v184, rfl, ho0, hb⟩; refine ⟨_, rfl, ?_⟩; have n0_ := Aside0.mk (Kd.S_lower ho0 (below_size (by repeat (first | (with_reducible first | exact HB.out | apply below_alloc | apply pw_below_drewN | apply below_drew1) | exact HB.out)))); have n1_ := Aside0.mk (below_step (by repeat (first | (with_reducible first | exact HB.out | apply below_alloc | apply pw_below_drewN | apply below_drew1) | exact HB.out)) hb); clear HB; have HO185 := n0_; have HB := n1_; clear n0_ n1_; (try clear hb); (try clear hb2); (try clear hk); (try clear hi); (try clear ho0); obtain ⟨Ao10, co10, eo10⟩ := Kd.S_slice HO185.out; subst eo10) | ((with_reducible refine gate_callee (f := 37) rfl ?_); refine goesL_ (some 17) rfl rfl Try.func37 (by kernel_rfl) rfl #[.slice Ao10 t183.length co10, .string a1] rfl (by (try simp only [List.map_toArray, List.map_cons, List.map_nil]); first | done | rfl | (simp only [List.length_drop, List.length_take]; rfl)) ?_; (with_reducible refine (spec_l13Find.calls k _ _ t183 a1 t186 _ ?side1 ?side2 A6.out).mono ?_); (case side1 => repeat (first | exact (Kd.S_reads' HO185.out).2.2 | (with_reducible refine Kd.C_alloc ?_ _) | (with_reducible refine Kd.C_drewN ?_ _) | (with_reducible refine Kd.C_drew ?_))); (case side2 => exact (Kd.S_reads' HO185.out).2.1); rintro e w' ⟨rfl, ⟨nd, rfl⟩⟩; refine ⟨_, rfl, ?_⟩))
      go_ret2
      exact ⟨_, by first | rfl | (simp [errW_none, errW_some] <;> rfl) | (simp [*, errW_none, errW_some] <;> rfl), by (with_reducible repeat (first | apply Kd.S_alloc | apply Kd.S_drewN | apply Kd.S_drew)); exact HO185.out, by repeat (first | (with_reducible first | exact HB.out | apply below_alloc | apply pw_below_drewN | apply below_drew1) | exact HB.out)⟩
    · rw [if_neg c7] at H
      have c7b0 : decide (t186 < 0) = false := decide_eq_false c7
      clear c7
      by_cases c11 : 0 ≤ t186
      · rw [if_pos c11] at H
        have c11b0 : decide (0 ≤ t186) = true := decide_eq_true c11
        clear c11
        by_cases c12 : t186 < (t183.length : Int)
        · rw [if_pos c12] at H
          have c12b0 : decide (t186 < (t183.length : Int)) = true := decide_eq_true c12
          clear c12
          replace H := Option.bind_eq_some_iff.mp H
          obtain ⟨t189, A130, H⟩ := H
          replace H : (if t189 < 1 then (some (t183, false)) else (if 0 ≤ (wrap64 (t189 - 1)) then (if (wrap64 (t189 - 1)) < (((rd_T52 t183 t186).f2).length : Int) then (some ((t183.set (t186 : Int).toNat (⟨(rd_T52 t183 t186).f0, (rd_T56 ((rd_T52 t183 t186).f2) (wrap64 (t189 - 1))).f0, (rd_T52 t183 t186).f2⟩ : S52)), true)) else (none)) else (none))) = some (r1, r2) := H
          have A13 := Aside0.mk A130
          clear A130
          by_cases c14 : t189 < 1
          · rw [if_pos c14] at H
            have c14b0 : decide (t189 < 1) = true := decide_eq_true c14
            clear c14
            simp only [Option.some.injEq, Prod.mk.injEq] at H
            obtain ⟨rfl, rfl⟩ := H
            go_enter Try.func16, Try.ntmps16
            try go_wp2_with (first | ((with_reducible refine gate_callee (f := 10) rfl ?_); refine goesL_ (some 10) rfl rfl Try.func10 (by kernel_rfl) rfl #[.slice A0 l0.length c0] rfl (by (try simp only [List.map_toArray, List.map_cons, List.map_nil]); first | done | rfl | (simp only [List.length_drop, List.length_take]; rfl)) ?_; (with_reducible refine (spec_ProfilesOk.calls k _ _ l0 true _ ?side1 ?side2 A3.out).mono ?_); (case side1 => repeat (first | exact HR0.out | (with_reducible refine Kd.C_alloc ?_ _) | (with_reducible refine Kd.C_drewN ?_ _) | (with_reducible refine Kd.C_drew ?_))); (case side2 => exact HC0.out); rintro e w15 ⟨rfl, hb⟩; refine ⟨_, rfl, ?_⟩; have n0_ := Aside0.mk (below_step (by repeat (first | (with_reducible first | exact HB.out | apply below_alloc | apply pw_below_drewN | apply below_drew1) | exact HB.out)) hb); clear HB; have HB := n0_; clear n0_; (try clear hb); (try clear hb2); (try clear hk); (try clear hi)) | ((with_reducible refine gate_callee (f := 41) rfl ?_); refine goesL_ (some 14) rfl rfl Try.func41 (by kernel_rfl) rfl #[.slice A0 l0.length c0] rfl (by (try simp only [List.map_toArray, List.map_cons, List.map_nil]); first | done | rfl | (simp only [List.length_drop, List.length_take]; rfl)) ?_; (with_reducible refine (spec_l13Copy.calls k _ _ l0 t183 _ ?side1 ?side2 A5.out).mono ?_); (case side1 => repeat (first | exact (Kd.C_below HR0.out HB.out) | (with_reducible refine Kd.C_alloc ?_ _) | (with_reducible refine Kd.C_drewN ?_ _) | (with_reducible refine Kd.C_drew ?_))); (case side2 => exact HC0.out); rintro e w16 ⟨v184, rfl, ho0, hb⟩; refine ⟨_, rfl, ?_⟩; have n0_ := Aside0.mk (Kd.S_lower ho0 (below_size (by repeat (first | (with_reducible first | exact HB.out | apply below_alloc | apply pw_below_drewN | apply below_drew1) | exact HB.out)))); have n1_ := Aside0.mk (below_step (by repeat (first | (with_reducible first | exact HB.out | apply below_alloc | apply pw_below_drewN | apply below_drew1) | exact HB.out)) hb); clear HB; have HO185 := n0_; have HB := n1_; clear n0_ n1_; (try clear hb); (try clear hb2); (try clear hk); (try clear hi); (try clear ho0); obtain ⟨Ao17, co17, eo17⟩ := Kd.S_slice HO185.out; subst eo17) | ((with_reducible refine gate_callee (f := 37) rfl ?_); refine goesL_ (some 17) rfl rfl Try.func37 (by kernel_rfl) rfl #[.slice Ao17 t183.length co17, .string a1] rfl (by (try simp only [List.map_toArray, List.map_cons, List.map_nil]); first | done | rfl | (simp only [List.length_drop, List.length_take]; rfl)) ?_; (with_reducible refine (spec_l13Find.calls k _ _ t183 a1 t186 _ ?side1 ?side2 A6.out).mono ?_); (case side1 => repeat (first | exact (Kd.S_reads' HO185.out).2.2 | (with_reducible refine Kd.C_alloc ?_ _) | (with_reducible refine Kd.C_drewN ?_ _) | (with_reducible refine Kd.C_drew ?_))); (case side2 => exact (Kd.S_reads' HO185.out).2.1); rintro e w' ⟨rfl, ⟨nd, rfl⟩⟩; refine ⟨_, rfl, ?_⟩))
            (try (rw [drewN_self w16]; generalize hq_ : World.drewN w16 _ = w16; have n0_ : Aside0 (Kd.S k52 52 w16 w.heap.size (fun _ => True) (.slice Ao17 t183.length co17) t183) := ⟨by rw [← hq_]; exact (by (with_reducible repeat (first | apply Kd.S_alloc | apply Kd.S_drewN | apply Kd.S_drew)); exact HO185.out)⟩; have n1_ : Aside0 (Below w.heap.size w w16) := ⟨by rw [← hq_]; exact (by repeat (first | (with_reducible first | exact HB.out | apply below_alloc | apply pw_below_drewN | apply below_drew1) | exact HB.out))⟩; clear HO185 HB hq_; have HO185 := n0_; have HB := n1_; clear n0_ n1_))
            have n0_ := Aside0.mk (Kd.S_drew HO185.out)
            have n1_ := Aside0.mk (below_drew1 HB.out)
            clear HO185
            clear HB
            have HO185 := n0_
            have HB := n1_
            clear n0_ n1_
            have p187 : 0 ≤ (t186 : Int) := of_decide_eq_true (by first | (with_reducible assumption) | assumption)
            have q187 : t186 < (t183.length : Int) := of_decide_eq_true (by first | (with_reducible assumption) | assumption)
            obtain ⟨ad187, A187_2, c187_2, e187, hx187_0, hx187_1, hx187_2, hl187_2, hi187_2⟩ := at_T52 (Kd.S_reads' HO185.out).2.2 t186 p187 q187
            cases e187
            obtain ⟨ce187, hce187, hMe187, hcc187⟩ := Kd.S_get HO185.out z52 t186 p187 (by first | exact q187 | exact of_decide_eq_true (by first | (with_reducible assumption) | assumption) | (have e_ := (Kd.S_reads' HO185.out).1; omega))
            obtain ⟨ve187_2, rfl, ge187_2⟩ := k52_openM hMe187
            have hv187_2 := hcc187 2 _ rfl
            rw [add_field _ _ 2 (by omega)] at hv187_2
            replace hv187_2 := Option.some.inj (hv187_2.symm.trans hx187_2)
            rw [hv187_2] at ge187_2
            have HL187_2 := Aside0.mk (show Kd.R k56 56 _ _ _ _ ((rd_T52 t183 t186).f2) from ge187_2)
            clear hv187_2 ge187_2
            clear hcc187 hce187
            have HR187_2 := Aside0.mk hi187_2
            have HC187_2 := Aside0.mk hl187_2
            clear hi187_2 hl187_2
            replace p187 := eq_true p187
            replace q187 := eq_true q187
            have p188 : 0 ≤ (t186 : Int) := of_decide_eq_true (by first | (with_reducible assumption) | assumption)
            have q188 : t186 < (t183.length : Int) := of_decide_eq_true (by first | (with_reducible assumption) | assumption)
            obtain ⟨ad188, A188_2, c188_2, e188, hx188_0, hx188_1, hx188_2, hl188_2, hi188_2⟩ := at_T52 (Kd.S_reads' HO185.out).2.2 t186 p188 q188
            obtain rfl : ad187 = ad188 := (by injection e188)
            obtain ⟨ce188, hce188, hMe188, hcc188⟩ := Kd.S_get HO185.out z52 t186 p188 (by first | exact q188 | exact of_decide_eq_true (by first | (with_reducible assumption) | assumption) | (have e_ := (Kd.S_reads' HO185.out).1; omega))
            obtain ⟨ve188_2, rfl, ge188_2⟩ := k52_openM hMe188
            have hv188_2 := hcc188 2 _ rfl
            rw [add_field _ _ 2 (by omega)] at hv188_2
            replace hv188_2 := Option.some.inj (hv188_2.symm.trans hx188_2)
            rw [hv188_2] at ge188_2
            have HL188_2 := Aside0.mk (show Kd.R k56 56 _ _ _ _ ((rd_T52 t183 t186).f2) from ge188_2)
            clear hv188_2 ge188_2
            clear hcc188 hce188
            have HR188_2 := Aside0.mk hi188_2
            have HC188_2 := Aside0.mk hl188_2
            clear hi188_2 hl188_2
            replace p188 := eq_true p188
            replace q188 := eq_true q188
            have ea_ := Option.some.inj (hx187_2.symm.trans hx188_2)
            injection ea_ with ea_ en_ ec_
            subst ea_
            subst ec_
            clear en_
            refine start_ (n := 11) (S := fun w' => w'.cell? (ad187.add ((t186).toNat * 3)) = some (.string ((rd_T52 t183 t186).f0)) ∧ w'.cell? ⟨(ad187.add ((t186).toNat * 3)).block, (ad187.add ((t186).toNat * 3)).off + 1, none⟩ = some (.int .i64 ((rd_T52 t183 t186).f1)) ∧ w'.cell? ⟨(ad187.add ((t186).toNat * 3)).block, (ad187.add ((t186).toNat * 3)).off + 2, none⟩ = some (.slice A187_2 ((rd_T52 t183 t186).f2).length c187_2) ∧ w'.cell? (ad187.add ((t186).toNat * 3)) = some (.string ((rd_T52 t183 t186).f0)) ∧ w'.cell? ⟨(ad187.add ((t186).toNat * 3)).block, (ad187.add ((t186).toNat * 3)).off + 1, none⟩ = some (.int .i64 ((rd_T52 t183 t186).f1)) ∧ w'.cell? ⟨(ad187.add ((t186).toNat * 3)).block, (ad187.add ((t186).toNat * 3)).off + 2, none⟩ = some (.slice A187_2 ((rd_T52 t183 t186).f2).length c187_2)) (ds := []) #[false, false, false, false, false, false, false, false, false, false, false] (by kernel_rfl) rfl rfl ⟨hx187_0, hx187_1, hx187_2, hx188_0, hx188_1, hx188_2⟩ (fun hHeld => ?_); refine with_tabW spec_Rollback.tab7 spec_Rollback.bits7 (fun HT_ HW_ => ?_)
            generalize w16.drew = w18 at HO185 HB HL187_2 HL188_2 HR187_2 HR188_2 hx187_0 hx187_1 hx187_2 hx188_0 hx188_1 hx188_2 hHeld ⊢
            refine pure_ (i := 0) (N := some 21) (v := ?_) (a' := ?_) #[true, false, false, false, false, false, false, false, false, false, false] rfl rfl (any_of HT_.out (by kernel_rfl)) (fun _ _ _ h => h) (Or.inl ⟨by rfl, ?_⟩) ?_ ?_
            rotate_left
            · intro w'
              go_simp
              with_reducible rfl
            rotate_left
            · simp only [Act.put, List.setIfInBounds_toArray, List.set_cons_zero, List.set_cons_succ, i64_w, i32_w]
              rfl
            refine pure_ (i := 1) (N := some 22) (v := ?_) (a' := ?_) #[true, true, false, false, false, false, false, false, false, false, false] rfl rfl (any_of HT_.out (by kernel_rfl)) (fun _ _ _ h => h) (Or.inl ⟨by rfl, ?_⟩) ?_ ?_
            rotate_left
            · intro w'
              go_simp
              with_reducible rfl
            rotate_left
            · simp only [Act.put, List.setIfInBounds_toArray, List.set_cons_zero, List.set_cons_succ, i64_w, i32_w]
              rfl
            refine pure_ (i := 2) (N := some 23) (v := ?_) (a' := ?_) #[true, true, true, false, false, false, false, false, false, false, false] rfl rfl (any_of HT_.out (by kernel_rfl)) (fun _ _ _ h => h) (Or.inl ⟨by rfl, ?_⟩) ?_ ?_
            rotate_left
            · intro w'
              go_simp
              with_reducible rfl
            rotate_left
            · simp only [Act.put, List.setIfInBounds_toArray, List.set_cons_zero, List.set_cons_succ, i64_w, i32_w]
              rfl
            refine pure_ (i := 4) (N := some 25) (v := ?_) (a' := ?_) #[true, true, true, false, true, false, false, false, false, false, false] rfl rfl (any_of HT_.out (by kernel_rfl)) (fun _ _ _ h => h) (Or.inl ⟨by rfl, ?_⟩) ?_ ?_
            rotate_left
            · intro w'
              go_simp
              with_reducible rfl
            rotate_left
            · simp only [Act.put, List.setIfInBounds_toArray, List.set_cons_zero, List.set_cons_succ, i64_w, i32_w]
              rfl
            refine pure_ (i := 5) (N := some 26) (v := ?_) (a' := ?_) #[true, true, true, false, true, true, false, false, false, false, false] rfl rfl (any_of HT_.out (by kernel_rfl)) (fun _ _ _ h => h) (Or.inl ⟨by rfl, ?_⟩) ?_ ?_
            rotate_left
            · intro w'
              go_simp
              with_reducible rfl
            rotate_left
            · simp only [Act.put, List.setIfInBounds_toArray, List.set_cons_zero, List.set_cons_succ, i64_w, i32_w]
              rfl
            refine pure_ (i := 6) (N := some 27) (v := ?_) (a' := ?_) #[true, true, true, false, true, true, true, false, false, false, false] rfl rfl (any_of HT_.out (by kernel_rfl)) (fun _ _ _ h => h) (Or.inl ⟨by rfl, ?_⟩) ?_ ?_
            rotate_left
            · intro w'
              go_simp
              with_reducible rfl
            rotate_left
            · simp only [Act.put, List.setIfInBounds_toArray, List.set_cons_zero, List.set_cons_succ, i64_w, i32_w]
              rfl
            refine pure_ (i := 7) (N := some 28) (v := ?_) (a' := ?_) #[true, true, true, false, true, true, true, true, false, false, false] rfl rfl (any_of HT_.out (by kernel_rfl)) (fun _ _ _ h => h) (Or.inl ⟨by rfl, ?_⟩) ?_ ?_
            rotate_left
            · intro w'
              go_simp
              with_reducible rfl
            rotate_left
            · simp only [Act.put, List.setIfInBounds_toArray, List.set_cons_zero, List.set_cons_succ, i64_w, i32_w]
              rfl
            refine take_ (i := 3) (N := some 24) (v := ?_) (a' := ?_) #[true, true, true, true, true, true, true, true, false, false, false] rfl rfl (take_ofW HT_.out HW_.out (by kernel_rfl)) (fun _ _ _ h => h) (Or.inl ⟨by rfl, ?_⟩) hHeld ?_ ?_
            rotate_left
            · rintro w' ⟨s0, s1, s2, s3, s4, s5⟩
              go_simp
              with_reducible rfl
            rotate_left
            · simp only [Act.put, List.setIfInBounds_toArray, List.set_cons_zero, List.set_cons_succ, i64_w, i32_w]
              rfl
            refine take_ (i := 8) (N := some 29) (v := ?_) (a' := ?_) #[true, true, true, true, true, true, true, true, true, false, false] rfl rfl (take_ofW HT_.out HW_.out (by kernel_rfl)) (fun _ _ _ h => h) (Or.inl ⟨by rfl, ?_⟩) hHeld ?_ ?_
            rotate_left
            · rintro w' ⟨s0, s1, s2, s3, s4, s5⟩
              go_simp
              with_reducible rfl
            rotate_left
            · simp only [Act.put, List.setIfInBounds_toArray, List.set_cons_zero, List.set_cons_succ, i64_w, i32_w]
              rfl
            refine one_ (i := 9) (N := some 30) #[true, true, true, true, true, true, true, true, true, true, false] rfl rfl (one_of HT_.out (by kernel_rfl)) (by decide) (fun K hK => ?_)
            refine goes_ Try.func31 (by kernel_rfl) rfl #[.agg #[.string ((rd_T52 t183 t186).f0), .int .i64 ((rd_T52 t183 t186).f1), .slice A187_2 ((rd_T52 t183 t186).f2).length c187_2], .int .i64 ((rd_T52 t183 t186).f1)] (by rfl) rfl rfl (by (try simp only [List.map_toArray, List.map_cons, List.map_nil]); first | done | rfl | (simp only [List.length_drop, List.length_take]; rfl)) ?_
            with_reducible refine (spec_l13Gen.calls k ((rd_T52 t183 t186).f0) ((rd_T52 t183 t186).f1) _ _ ((rd_T52 t183 t186).f2) ((rd_T52 t183 t186).f1) t189 _ ?side1 ?side2 A13.out).mono ?_
            (case side1 => repeat (first | exact (by repeat (first | (with_reducible exact HR187_2.out) | (with_reducible refine Kd.C_alloc ?_ _) | (with_reducible refine Kd.C_drewN ?_ _) | (with_reducible refine Kd.C_drew ?_) | exact HR187_2.out)) | (with_reducible refine Kd.C_alloc ?_ _) | (with_reducible refine Kd.C_drewN ?_ _) | (with_reducible refine Kd.C_drew ?_)))
            (case side2 => exact HC187_2.out)
            rintro e w19 ⟨rfl, hb⟩
            have HS0_ := (hb.cell (World.block_lt_of_cell? _ _ (hHeld.1))).trans (hHeld.1)
            have HS1_ := (hb.cell (World.block_lt_of_cell? _ _ (hHeld.2.1))).trans (hHeld.2.1)
            have HS2_ := (hb.cell (World.block_lt_of_cell? _ _ (hHeld.2.2.1))).trans (hHeld.2.2.1)
            have HS3_ := (hb.cell (World.block_lt_of_cell? _ _ (hHeld.2.2.2.1))).trans (hHeld.2.2.2.1)
            have HS4_ := (hb.cell (World.block_lt_of_cell? _ _ (hHeld.2.2.2.2.1))).trans (hHeld.2.2.2.2.1)
            have HS5_ := (hb.cell (World.block_lt_of_cell? _ _ (hHeld.2.2.2.2.2))).trans (hHeld.2.2.2.2.2)
            refine ⟨_, rfl, ?_⟩
            have n0_ := Aside0.mk (Kd.S_below (by (with_reducible repeat (first | apply Kd.S_alloc | apply Kd.S_drewN | apply Kd.S_drew)); exact HO185.out) hb)
            have n1_ := Aside0.mk (Kd.R_below (by (with_reducible repeat (first | apply Kd.R_alloc | apply Kd.R_drewN | apply Kd.R_drew)); exact HL187_2.out) hb)
            have n2_ := Aside0.mk (Kd.R_below (by (with_reducible repeat (first | apply Kd.R_alloc | apply Kd.R_drewN | apply Kd.R_drew)); exact HL188_2.out) hb)
            have n3_ := Aside0.mk (Kd.C_below (by repeat (first | (with_reducible exact HR187_2.out) | (with_reducible refine Kd.C_alloc ?_ _) | (with_reducible refine Kd.C_drewN ?_ _) | (with_reducible refine Kd.C_drew ?_) | exact HR187_2.out)) hb)
            have n4_ := Aside0.mk (Kd.C_below (by repeat (first | (with_reducible exact HR188_2.out) | (with_reducible refine Kd.C_alloc ?_ _) | (with_reducible refine Kd.C_drewN ?_ _) | (with_reducible refine Kd.C_drew ?_) | exact HR188_2.out)) hb)
            have n5_ := Aside0.mk (below_step (by repeat (first | (with_reducible first | exact HB.out | apply below_alloc | apply pw_below_drewN | apply below_drew1) | exact HB.out)) hb)
            clear HO185
            clear HL187_2
            clear HL188_2
            clear HR187_2
            clear HR188_2
            clear HB
            have HO185 := n0_
            have HL187_2 := n1_
            have HL188_2 := n2_
            have HR187_2 := n3_
            have HR188_2 := n4_
            have HB := n5_
            clear n0_ n1_ n2_ n3_ n4_ n5_
            (try clear hb)
            (try clear hb2)
            (try clear hk)
            (try clear hi)
            refine hK.out _ _ ⟨HS0_, HS1_, HS2_, HS3_, HS4_, HS5_⟩ (fun hHeld => ?_)
            clear hK K
            refine norm_ (a' := ?_) ?_ ?_
            rotate_left
            · show Act.put _ (some 30) _ = _
              simp only [Act.put, List.setIfInBounds_toArray, List.set_cons_zero, List.set_cons_succ, i64_w, i32_w]
              rfl
            refine pure_ (i := 10) (N := some 8) (v := ?_) (a' := ?_) #[true, true, true, true, true, true, true, true, true, true, true] rfl rfl (any_of HT_.out (by kernel_rfl)) (fun _ _ _ h => h) (Or.inl ⟨by rfl, ?_⟩) ?_ ?_
            rotate_left
            · intro w'
              go_simp
              with_reducible rfl
            rotate_left
            · simp only [Act.put, List.setIfInBounds_toArray, List.set_cons_zero, List.set_cons_succ, i64_w, i32_w]
              rfl
            refine done_ (done_of HT_.out (by kernel_rfl)) ?_
            try go_wp2
            go_ret2
            exact ⟨_, by first | rfl | (simp [errW_none, errW_some] <;> rfl) | (simp [*, errW_none, errW_some] <;> rfl), by (with_reducible repeat (first | apply Kd.S_alloc | apply Kd.S_drewN | apply Kd.S_drew)); exact HO185.out, by repeat (first | (with_reducible first | exact HB.out | apply below_alloc | apply pw_below_drewN | apply below_drew1) | exact HB.out)⟩
          · rw [if_neg c14] at H
            have c14b0 : decide (t189 < 1) = false := decide_eq_false c14
            clear c14
            obtain ⟨ji20, hji20⟩ : ∃ j_ : Int, (wrap64 (t189 - 1)) = j_ := ⟨_, rfl⟩
            replace H : (if 0 ≤ (ji20) then (if (ji20) < (((rd_T52 t183 t186).f2).length : Int) then (some ((t183.set (t186 : Int).toNat (⟨(rd_T52 t183 t186).f0, (rd_T56 ((rd_T52 t183 t186).f2) (ji20)).f0, (rd_T52 t183 t186).f2⟩ : S52)), true)) else (none)) else (none)) = some (r1, r2) := by first | (rw [hji20] at H; exact H) | (simp only [hji20] at H ⊢; exact H)
            (try rw [hji20] at A3)
            (try rw [hji20] at A5)
            (try rw [hji20] at A6)
            (try rw [hji20] at A13)
            have hji20w : (IntKind.i64.wrap (t189 - 1)) = ji20 := (i64_w _).trans hji20
            by_cases c21 : 0 ≤ (ji20)
            · rw [if_pos c21] at H
              have c21b0 : decide (0 ≤ (ji20)) = true := decide_eq_true c21
              clear c21
              by_cases c22 : (ji20) < (((rd_T52 t183 t186).f2).length : Int)
              · rw [if_pos c22] at H
                have c22b0 : decide ((ji20) < (((rd_T52 t183 t186).f2).length : Int)) = true := decide_eq_true c22
                clear c22
                obtain ⟨y192, hy192⟩ : ∃ y_ : List (S52), y_ = (t183.set (t186 : Int).toNat (⟨(rd_T52 t183 t186).f0, (rd_T56 ((rd_T52 t183 t186).f2) (ji20)).f0, (rd_T52 t183 t186).f2⟩ : S52)) := ⟨_, rfl⟩
                replace H : (some (y192, true)) = some (r1, r2) := by first | (rw [hy192]; with_reducible exact H) | (have H2_ := (Option.bind_some _ _).symm.trans H; rw [hy192]; with_reducible exact H2_) | (have H2_ := (Option.bind_some _ _).symm.trans H; with_reducible exact H2_) | with_reducible exact H | (rw [hy192]; exact H) | exact H
                have Ny192 := Aside0.mk hy192
                clear hy192
                simp only [Option.some.injEq, Prod.mk.injEq] at H
                obtain ⟨rfl, rfl⟩ := H
                go_enter Try.func16, Try.ntmps16
                try go_wp2_with (first | ((with_reducible refine gate_callee (f := 10) rfl ?_); refine goesL_ (some 10) rfl rfl Try.func10 (by kernel_rfl) rfl #[.slice A0 l0.length c0] rfl (by (try simp only [List.map_toArray, List.map_cons, List.map_nil]); first | done | rfl | (simp only [List.length_drop, List.length_take]; rfl)) ?_; (with_reducible refine (spec_ProfilesOk.calls k _ _ l0 true _ ?side1 ?side2 A3.out).mono ?_); (case side1 => repeat (first | exact HR0.out | (with_reducible refine Kd.C_alloc ?_ _) | (with_reducible refine Kd.C_drewN ?_ _) | (with_reducible refine Kd.C_drew ?_))); (case side2 => exact HC0.out); rintro e w24 ⟨rfl, hb⟩; refine ⟨_, rfl, ?_⟩; have n0_ := Aside0.mk (below_step (by repeat (first | (with_reducible first | exact HB.out | apply below_alloc | apply pw_below_drewN | apply below_drew1) | exact HB.out)) hb); clear HB; have HB := n0_; clear n0_; (try clear hb); (try clear hb2); (try clear hk); (try clear hi)) | ((with_reducible refine gate_callee (f := 41) rfl ?_); refine goesL_ (some 14) rfl rfl Try.func41 (by kernel_rfl) rfl #[.slice A0 l0.length c0] rfl (by (try simp only [List.map_toArray, List.map_cons, List.map_nil]); first | done | rfl | (simp only [List.length_drop, List.length_take]; rfl)) ?_; (with_reducible refine (spec_l13Copy.calls k _ _ l0 t183 _ ?side1 ?side2 A5.out).mono ?_); (case side1 => repeat (first | exact (Kd.C_below HR0.out HB.out) | (with_reducible refine Kd.C_alloc ?_ _) | (with_reducible refine Kd.C_drewN ?_ _) | (with_reducible refine Kd.C_drew ?_))); (case side2 => exact HC0.out); rintro e w25 ⟨v184, rfl, ho0, hb⟩; refine ⟨_, rfl, ?_⟩; have n0_ := Aside0.mk (Kd.S_lower ho0 (below_size (by repeat (first | (with_reducible first | exact HB.out | apply below_alloc | apply pw_below_drewN | apply below_drew1) | exact HB.out)))); have n1_ := Aside0.mk (below_step (by repeat (first | (with_reducible first | exact HB.out | apply below_alloc | apply pw_below_drewN | apply below_drew1) | exact HB.out)) hb); clear HB; have HO185 := n0_; have HB := n1_; clear n0_ n1_; (try clear hb); (try clear hb2); (try clear hk); (try clear hi); (try clear ho0); obtain ⟨Ao26, co26, eo26⟩ := Kd.S_slice HO185.out; subst eo26) | ((with_reducible refine gate_callee (f := 37) rfl ?_); refine goesL_ (some 17) rfl rfl Try.func37 (by kernel_rfl) rfl #[.slice Ao26 t183.length co26, .string a1] rfl (by (try simp only [List.map_toArray, List.map_cons, List.map_nil]); first | done | rfl | (simp only [List.length_drop, List.length_take]; rfl)) ?_; (with_reducible refine (spec_l13Find.calls k _ _ t183 a1 t186 _ ?side1 ?side2 A6.out).mono ?_); (case side1 => repeat (first | exact (Kd.S_reads' HO185.out).2.2 | (with_reducible refine Kd.C_alloc ?_ _) | (with_reducible refine Kd.C_drewN ?_ _) | (with_reducible refine Kd.C_drew ?_))); (case side2 => exact (Kd.S_reads' HO185.out).2.1); rintro e w' ⟨rfl, ⟨nd, rfl⟩⟩; refine ⟨_, rfl, ?_⟩; (try (rw [drewN_self w25]; generalize hq_ : World.drewN w25 _ = w25; have n0_ : Aside0 (Kd.S k52 52 w25 w.heap.size (fun _ => True) (.slice Ao26 t183.length co26) t183) := ⟨by rw [← hq_]; exact (by (with_reducible repeat (first | apply Kd.S_alloc | apply Kd.S_drewN | apply Kd.S_drew)); exact HO185.out)⟩; have n1_ : Aside0 (Below w.heap.size w w25) := ⟨by rw [← hq_]; exact (by repeat (first | (with_reducible first | exact HB.out | apply below_alloc | apply pw_below_drewN | apply below_drew1) | exact HB.out))⟩; clear HO185 HB hq_; have HO185 := n0_; have HB := n1_; clear n0_ n1_))))
                have n0_ := Aside0.mk (Kd.S_drew HO185.out)
                have n1_ := Aside0.mk (below_drew1 HB.out)
                clear HO185
                clear HB
                have HO185 := n0_
                have HB := n1_
                clear n0_ n1_
                have p187 : 0 ≤ (t186 : Int) := of_decide_eq_true (by first | (with_reducible assumption) | assumption)
                have q187 : t186 < (t183.length : Int) := of_decide_eq_true (by first | (with_reducible assumption) | assumption)
                obtain ⟨ad187, A187_2, c187_2, e187, hx187_0, hx187_1, hx187_2, hl187_2, hi187_2⟩ := at_T52 (Kd.S_reads' HO185.out).2.2 t186 p187 q187
                cases e187
                obtain ⟨ce187, hce187, hMe187, hcc187⟩ := Kd.S_get HO185.out z52 t186 p187 (by first | exact q187 | exact of_decide_eq_true (by first | (with_reducible assumption) | assumption) | (have e_ := (Kd.S_reads' HO185.out).1; omega))
                obtain ⟨ve187_2, rfl, ge187_2⟩ := k52_openM hMe187
                have hv187_2 := hcc187 2 _ rfl
                rw [add_field _ _ 2 (by omega)] at hv187_2
                replace hv187_2 := Option.some.inj (hv187_2.symm.trans hx187_2)
                rw [hv187_2] at ge187_2
                have HL187_2 := Aside0.mk (show Kd.R k56 56 _ _ _ _ ((rd_T52 t183 t186).f2) from ge187_2)
                clear hv187_2 ge187_2
                clear hcc187 hce187
                have HR187_2 := Aside0.mk hi187_2
                have HC187_2 := Aside0.mk hl187_2
                clear hi187_2 hl187_2
                replace p187 := eq_true p187
                replace q187 := eq_true q187
                have p188 : 0 ≤ (t186 : Int) := of_decide_eq_true (by first | (with_reducible assumption) | assumption)
                have q188 : t186 < (t183.length : Int) := of_decide_eq_true (by first | (with_reducible assumption) | assumption)
                obtain ⟨ad188, A188_2, c188_2, e188, hx188_0, hx188_1, hx188_2, hl188_2, hi188_2⟩ := at_T52 (Kd.S_reads' HO185.out).2.2 t186 p188 q188
                obtain rfl : ad187 = ad188 := (by injection e188)
                obtain ⟨ce188, hce188, hMe188, hcc188⟩ := Kd.S_get HO185.out z52 t186 p188 (by first | exact q188 | exact of_decide_eq_true (by first | (with_reducible assumption) | assumption) | (have e_ := (Kd.S_reads' HO185.out).1; omega))
                obtain ⟨ve188_2, rfl, ge188_2⟩ := k52_openM hMe188
                have hv188_2 := hcc188 2 _ rfl
                rw [add_field _ _ 2 (by omega)] at hv188_2
                replace hv188_2 := Option.some.inj (hv188_2.symm.trans hx188_2)
                rw [hv188_2] at ge188_2
                have HL188_2 := Aside0.mk (show Kd.R k56 56 _ _ _ _ ((rd_T52 t183 t186).f2) from ge188_2)
                clear hv188_2 ge188_2
                clear hcc188 hce188
                have HR188_2 := Aside0.mk hi188_2
                have HC188_2 := Aside0.mk hl188_2
                clear hi188_2 hl188_2
                replace p188 := eq_true p188
                replace q188 := eq_true q188
                have ea_ := Option.some.inj (hx187_2.symm.trans hx188_2)
                injection ea_ with ea_ en_ ec_
                subst ea_
                subst ec_
                clear en_
                refine start_ (n := 11) (S := fun w' => w'.cell? (ad187.add ((t186).toNat * 3)) = some (.string ((rd_T52 t183 t186).f0)) ∧ w'.cell? ⟨(ad187.add ((t186).toNat * 3)).block, (ad187.add ((t186).toNat * 3)).off + 1, none⟩ = some (.int .i64 ((rd_T52 t183 t186).f1)) ∧ w'.cell? ⟨(ad187.add ((t186).toNat * 3)).block, (ad187.add ((t186).toNat * 3)).off + 2, none⟩ = some (.slice A187_2 ((rd_T52 t183 t186).f2).length c187_2) ∧ w'.cell? (ad187.add ((t186).toNat * 3)) = some (.string ((rd_T52 t183 t186).f0)) ∧ w'.cell? ⟨(ad187.add ((t186).toNat * 3)).block, (ad187.add ((t186).toNat * 3)).off + 1, none⟩ = some (.int .i64 ((rd_T52 t183 t186).f1)) ∧ w'.cell? ⟨(ad187.add ((t186).toNat * 3)).block, (ad187.add ((t186).toNat * 3)).off + 2, none⟩ = some (.slice A187_2 ((rd_T52 t183 t186).f2).length c187_2)) (ds := []) #[false, false, false, false, false, false, false, false, false, false, false] (by kernel_rfl) rfl rfl ⟨hx187_0, hx187_1, hx187_2, hx188_0, hx188_1, hx188_2⟩ (fun hHeld => ?_); refine with_tabW spec_Rollback.tab7 spec_Rollback.bits7 (fun HT_ HW_ => ?_)
                generalize w25.drew = w27 at HO185 HB HL187_2 HL188_2 HR187_2 HR188_2 hx187_0 hx187_1 hx187_2 hx188_0 hx188_1 hx188_2 hHeld ⊢
                refine pure_ (i := 0) (N := some 21) (v := ?_) (a' := ?_) #[true, false, false, false, false, false, false, false, false, false, false] rfl rfl (any_of HT_.out (by kernel_rfl)) (fun _ _ _ h => h) (Or.inl ⟨by rfl, ?_⟩) ?_ ?_
                rotate_left
                · intro w'
                  go_simp
                  with_reducible rfl
                rotate_left
                · simp only [Act.put, List.setIfInBounds_toArray, List.set_cons_zero, List.set_cons_succ, i64_w, i32_w]
                  rfl
                refine pure_ (i := 1) (N := some 22) (v := ?_) (a' := ?_) #[true, true, false, false, false, false, false, false, false, false, false] rfl rfl (any_of HT_.out (by kernel_rfl)) (fun _ _ _ h => h) (Or.inl ⟨by rfl, ?_⟩) ?_ ?_
                rotate_left
                · intro w'
                  go_simp
                  with_reducible rfl
                rotate_left
                · simp only [Act.put, List.setIfInBounds_toArray, List.set_cons_zero, List.set_cons_succ, i64_w, i32_w]
                  rfl
                refine pure_ (i := 2) (N := some 23) (v := ?_) (a' := ?_) #[true, true, true, false, false, false, false, false, false, false, false] rfl rfl (any_of HT_.out (by kernel_rfl)) (fun _ _ _ h => h) (Or.inl ⟨by rfl, ?_⟩) ?_ ?_
                rotate_left
                · intro w'
                  go_simp
                  with_reducible rfl
                rotate_left
                · simp only [Act.put, List.setIfInBounds_toArray, List.set_cons_zero, List.set_cons_succ, i64_w, i32_w]
                  rfl
                refine pure_ (i := 4) (N := some 25) (v := ?_) (a' := ?_) #[true, true, true, false, true, false, false, false, false, false, false] rfl rfl (any_of HT_.out (by kernel_rfl)) (fun _ _ _ h => h) (Or.inl ⟨by rfl, ?_⟩) ?_ ?_
                rotate_left
                · intro w'
                  go_simp
                  with_reducible rfl
                rotate_left
                · simp only [Act.put, List.setIfInBounds_toArray, List.set_cons_zero, List.set_cons_succ, i64_w, i32_w]
                  rfl
                refine pure_ (i := 5) (N := some 26) (v := ?_) (a' := ?_) #[true, true, true, false, true, true, false, false, false, false, false] rfl rfl (any_of HT_.out (by kernel_rfl)) (fun _ _ _ h => h) (Or.inl ⟨by rfl, ?_⟩) ?_ ?_
                rotate_left
                · intro w'
                  go_simp
                  with_reducible rfl
                rotate_left
                · simp only [Act.put, List.setIfInBounds_toArray, List.set_cons_zero, List.set_cons_succ, i64_w, i32_w]
                  rfl
                refine pure_ (i := 6) (N := some 27) (v := ?_) (a' := ?_) #[true, true, true, false, true, true, true, false, false, false, false] rfl rfl (any_of HT_.out (by kernel_rfl)) (fun _ _ _ h => h) (Or.inl ⟨by rfl, ?_⟩) ?_ ?_
                rotate_left
                · intro w'
                  go_simp
                  with_reducible rfl
                rotate_left
                · simp only [Act.put, List.setIfInBounds_toArray, List.set_cons_zero, List.set_cons_succ, i64_w, i32_w]
                  rfl
                refine pure_ (i := 7) (N := some 28) (v := ?_) (a' := ?_) #[true, true, true, false, true, true, true, true, false, false, false] rfl rfl (any_of HT_.out (by kernel_rfl)) (fun _ _ _ h => h) (Or.inl ⟨by rfl, ?_⟩) ?_ ?_
                rotate_left
                · intro w'
                  go_simp
                  with_reducible rfl
                rotate_left
                · simp only [Act.put, List.setIfInBounds_toArray, List.set_cons_zero, List.set_cons_succ, i64_w, i32_w]
                  rfl
                refine take_ (i := 3) (N := some 24) (v := ?_) (a' := ?_) #[true, true, true, true, true, true, true, true, false, false, false] rfl rfl (take_ofW HT_.out HW_.out (by kernel_rfl)) (fun _ _ _ h => h) (Or.inl ⟨by rfl, ?_⟩) hHeld ?_ ?_
                rotate_left
                · rintro w' ⟨s0, s1, s2, s3, s4, s5⟩
                  go_simp
                  with_reducible rfl
                rotate_left
                · simp only [Act.put, List.setIfInBounds_toArray, List.set_cons_zero, List.set_cons_succ, i64_w, i32_w]
                  rfl
                refine take_ (i := 8) (N := some 29) (v := ?_) (a' := ?_) #[true, true, true, true, true, true, true, true, true, false, false] rfl rfl (take_ofW HT_.out HW_.out (by kernel_rfl)) (fun _ _ _ h => h) (Or.inl ⟨by rfl, ?_⟩) hHeld ?_ ?_
                rotate_left
                · rintro w' ⟨s0, s1, s2, s3, s4, s5⟩
                  go_simp
                  with_reducible rfl
                rotate_left
                · simp only [Act.put, List.setIfInBounds_toArray, List.set_cons_zero, List.set_cons_succ, i64_w, i32_w]
                  rfl
                refine one_ (i := 9) (N := some 30) #[true, true, true, true, true, true, true, true, true, true, false] rfl rfl (one_of HT_.out (by kernel_rfl)) (by decide) (fun K hK => ?_)
                refine goes_ Try.func31 (by kernel_rfl) rfl #[.agg #[.string ((rd_T52 t183 t186).f0), .int .i64 ((rd_T52 t183 t186).f1), .slice A187_2 ((rd_T52 t183 t186).f2).length c187_2], .int .i64 ((rd_T52 t183 t186).f1)] (by rfl) rfl rfl (by (try simp only [List.map_toArray, List.map_cons, List.map_nil]); first | done | rfl | (simp only [List.length_drop, List.length_take]; rfl)) ?_
                with_reducible refine (spec_l13Gen.calls k ((rd_T52 t183 t186).f0) ((rd_T52 t183 t186).f1) _ _ ((rd_T52 t183 t186).f2) ((rd_T52 t183 t186).f1) t189 _ ?side1 ?side2 A13.out).mono ?_
                (case side1 => repeat (first | exact (by repeat (first | (with_reducible exact HR187_2.out) | (with_reducible refine Kd.C_alloc ?_ _) | (with_reducible refine Kd.C_drewN ?_ _) | (with_reducible refine Kd.C_drew ?_) | exact HR187_2.out)) | (with_reducible refine Kd.C_alloc ?_ _) | (with_reducible refine Kd.C_drewN ?_ _) | (with_reducible refine Kd.C_drew ?_)))
                (case side2 => exact HC187_2.out)
                rintro e w28 ⟨rfl, hb⟩
                have HS0_ := (hb.cell (World.block_lt_of_cell? _ _ (hHeld.1))).trans (hHeld.1)
                have HS1_ := (hb.cell (World.block_lt_of_cell? _ _ (hHeld.2.1))).trans (hHeld.2.1)
                have HS2_ := (hb.cell (World.block_lt_of_cell? _ _ (hHeld.2.2.1))).trans (hHeld.2.2.1)
                have HS3_ := (hb.cell (World.block_lt_of_cell? _ _ (hHeld.2.2.2.1))).trans (hHeld.2.2.2.1)
                have HS4_ := (hb.cell (World.block_lt_of_cell? _ _ (hHeld.2.2.2.2.1))).trans (hHeld.2.2.2.2.1)
                have HS5_ := (hb.cell (World.block_lt_of_cell? _ _ (hHeld.2.2.2.2.2))).trans (hHeld.2.2.2.2.2)
                refine ⟨_, rfl, ?_⟩
                have n0_ := Aside0.mk (Kd.S_below (by (with_reducible repeat (first | apply Kd.S_alloc | apply Kd.S_drewN | apply Kd.S_drew)); exact HO185.out) hb)
                have n1_ := Aside0.mk (Kd.R_below (by (with_reducible repeat (first | apply Kd.R_alloc | apply Kd.R_drewN | apply Kd.R_drew)); exact HL187_2.out) hb)
                have n2_ := Aside0.mk (Kd.R_below (by (with_reducible repeat (first | apply Kd.R_alloc | apply Kd.R_drewN | apply Kd.R_drew)); exact HL188_2.out) hb)
                have n3_ := Aside0.mk (Kd.C_below (by repeat (first | (with_reducible exact HR187_2.out) | (with_reducible refine Kd.C_alloc ?_ _) | (with_reducible refine Kd.C_drewN ?_ _) | (with_reducible refine Kd.C_drew ?_) | exact HR187_2.out)) hb)
                have n4_ := Aside0.mk (Kd.C_below (by repeat (first | (with_reducible exact HR188_2.out) | (with_reducible refine Kd.C_alloc ?_ _) | (with_reducible refine Kd.C_drewN ?_ _) | (with_reducible refine Kd.C_drew ?_) | exact HR188_2.out)) hb)
                have n5_ := Aside0.mk (below_step (by repeat (first | (with_reducible first | exact HB.out | apply below_alloc | apply pw_below_drewN | apply below_drew1) | exact HB.out)) hb)
                clear HO185
                clear HL187_2
                clear HL188_2
                clear HR187_2
                clear HR188_2
                clear HB
                have HO185 := n0_
                have HL187_2 := n1_
                have HL188_2 := n2_
                have HR187_2 := n3_
                have HR188_2 := n4_
                have HB := n5_
                clear n0_ n1_ n2_ n3_ n4_ n5_
                (try clear hb)
                (try clear hb2)
                (try clear hk)
                (try clear hi)
                refine hK.out _ _ ⟨HS0_, HS1_, HS2_, HS3_, HS4_, HS5_⟩ (fun hHeld => ?_)
                clear hK K
                refine norm_ (a' := ?_) ?_ ?_
                rotate_left
                · show Act.put _ (some 30) _ = _
                  simp only [Act.put, List.setIfInBounds_toArray, List.set_cons_zero, List.set_cons_succ, i64_w, i32_w]
                  rfl
                refine pure_ (i := 10) (N := some 8) (v := ?_) (a' := ?_) #[true, true, true, true, true, true, true, true, true, true, true] rfl rfl (any_of HT_.out (by kernel_rfl)) (fun _ _ _ h => h) (Or.inl ⟨by rfl, ?_⟩) ?_ ?_
                rotate_left
                · intro w'
                  go_simp
                  with_reducible rfl
                rotate_left
                · simp only [Act.put, List.setIfInBounds_toArray, List.set_cons_zero, List.set_cons_succ, i64_w, i32_w]
                  rfl
                refine done_ (done_of HT_.out (by kernel_rfl)) ?_
                have p190 : 0 ≤ (t186 : Int) := of_decide_eq_true (by first | (with_reducible assumption) | assumption)
                have q190 : t186 < (t183.length : Int) := of_decide_eq_true (by first | (with_reducible assumption) | assumption)
                obtain ⟨ad190, A190_2, c190_2, e190, hx190_0, hx190_1, hx190_2, hl190_2, hi190_2⟩ := at_T52 (Kd.S_reads' HO185.out).2.2 t186 p190 q190
                obtain rfl : ad187 = ad190 := (by injection e190)
                obtain ⟨ce190, hce190, hMe190, hcc190⟩ := Kd.S_get HO185.out z52 t186 p190 (by first | exact q190 | exact of_decide_eq_true (by first | (with_reducible assumption) | assumption) | (have e_ := (Kd.S_reads' HO185.out).1; omega))
                obtain ⟨ve190_2, rfl, ge190_2⟩ := k52_openM hMe190
                have hv190_2 := hcc190 2 _ rfl
                rw [add_field _ _ 2 (by omega)] at hv190_2
                replace hv190_2 := Option.some.inj (hv190_2.symm.trans hx190_2)
                rw [hv190_2] at ge190_2
                have HL190_2 := Aside0.mk (show Kd.R k56 56 _ _ _ _ ((rd_T52 t183 t186).f2) from ge190_2)
                clear hv190_2 ge190_2
                clear hcc190 hce190
                have HR190_2 := Aside0.mk hi190_2
                have HC190_2 := Aside0.mk hl190_2
                clear hi190_2 hl190_2
                replace p190 := eq_true p190
                replace q190 := eq_true q190
                have p191 : 0 ≤ ((ji20) : Int) := of_decide_eq_true (by first | (with_reducible assumption) | assumption)
                have q191 : (ji20) < (((rd_T52 t183 t186).f2).length : Int) := of_decide_eq_true (by first | (with_reducible assumption) | assumption)
                obtain ⟨ad191, e191, hx191_0, hx191_1⟩ := at_T56 (by repeat (first | (with_reducible exact HR190_2.out) | (with_reducible refine Kd.C_alloc ?_ _) | (with_reducible refine Kd.C_drewN ?_ _) | (with_reducible refine Kd.C_drew ?_) | exact HR190_2.out)) (ji20) p191 q191
                cases e191
                replace p191 := eq_true p191
                replace q191 := eq_true q191
                have p23 : 0 ≤ (t186 : Int) := of_decide_eq_true (by first | (with_reducible assumption) | assumption)
                have q23 : (t186 : Int) < ((t183.length : Int) : Int) := of_decide_eq_true (by first | (with_reducible assumption) | assumption)
                obtain ⟨go23, co23, eo23, gb23, gl23, cl23, HG23⟩ := Kd.S_form HO185.out (by omega)
                (first | cases eo23 | (injection eo23 with ea_ en_ ec_; (first | subst ea_ | (injection ea_ with ea_; subst ea_)); subst ec_; clear en_))
                have GB23 := Aside0.mk gb23
                have GG23 := Aside0.mk HG23
                clear gb23 gl23 HG23
                (first | simp only [add_plain] at hx187_0 | skip)
                (first | simp only [add_plain] at hx187_1 | skip)
                (first | simp only [add_plain] at hx187_2 | skip)
                (first | simp only [add_plain] at hx188_0 | skip)
                (first | simp only [add_plain] at hx188_1 | skip)
                (first | simp only [add_plain] at hx188_2 | skip)
                (first | simp only [add_plain] at hx190_0 | skip)
                (first | simp only [add_plain] at hx190_1 | skip)
                (first | simp only [add_plain] at hx190_2 | skip)
                obtain ⟨_, ce23, hcl23, hM23, hcc23, hfr23, _, _⟩ := Kd.S_elem HO185.out z52 (t186 : Int) p23 q23
                obtain ⟨ve23_2, rfl, ge23_2⟩ := k52_openM hM23
                have hx23_0 : w28.cell? ⟨go23, (t186 : Int).toNat * 3, none⟩ = some (.string ((rd_T52 t183 t186).f0)) := hcc23 0 _ rfl
                have hx23_1 : w28.cell? ⟨go23, (t186 : Int).toNat * 3 + 1, none⟩ = some (.int .i64 ((rd_T52 t183 t186).f1)) := hcc23 1 _ rfl
                have hx23_2 : w28.cell? ⟨go23, (t186 : Int).toNat * 3 + 2, none⟩ = some (ve23_2) := hcc23 2 _ rfl
                have hf23_0 : w28.frozen? ⟨go23, (t186 : Int).toNat * 3, none⟩ = false := hfr23 0
                have hf23_1 : w28.frozen? ⟨go23, (t186 : Int).toNat * 3 + 1, none⟩ = false := hfr23 1
                have hf23_2 : w28.frozen? ⟨go23, (t186 : Int).toNat * 3 + 2, none⟩ = false := hfr23 2
                clear hcl23 hcc23 hfr23 hM23
                replace p23 := eq_true p23
                replace q23 := eq_true q23
                have HX29 := Aside0.mk (show Kd.S k52 52 w28 w.heap.size (fun k_ => ((fun _ => True)) k_ ∧ ¬ ((fun _ => False)) k_) (.slice (some ⟨go23, 0, none⟩) t183.length co26) t183 from (by (with_reducible repeat (first | apply Kd.S_alloc | apply Kd.S_drewN | apply Kd.S_drew)); exact Kd.S_mono HO185.out (fun k_ hk => ⟨trivial, fun e_ => e_⟩)))
                obtain ⟨oki29, ce29, hcl29, hM29, hcc29, hfr29, hoki29, hH29⟩ := Kd.S_elem HX29.out z52 (t186 : Int) (of_decide_eq_true (by first | (with_reducible assumption) | assumption)) (by have h_ : (t186 : Int) < ((t183.length : Int) : Int) := of_decide_eq_true (by first | (with_reducible assumption) | assumption); first | exact h_ | (have e_ := (Kd.S_reads' HO185.out).1; omega) | simpa using h_)
                obtain ⟨ve29_2, rfl, ge29_2⟩ := k52_openM hM29
                have HP29 := Kd.S_seg hH29 (of_decide_eq_true (by first | (with_reducible assumption) | assumption)) (by have h_ : (t186 : Int) < ((t183.length : Int) : Int) := of_decide_eq_true (by first | (with_reducible assumption) | assumption); first | exact h_ | (have e_ := (Kd.S_reads' HO185.out).1; omega) | simpa using h_) (seg := [.int .i64 ((rd_T56 ((rd_T52 t183 t186).f2) (ji20)).f0)]) (j := 1) (show 2 ≤ 3 from by decide) (x' := (⟨(rd_T52 t183 t186).f0, (rd_T56 ((rd_T52 t183 t186).f2) (ji20)).f0, (rd_T52 t183 t186).f2⟩ : S52)) (k52_mkM _ _ _ (⟨(rd_T52 t183 t186).f0, (rd_T56 ((rd_T52 t183 t186).f2) (ji20)).f0, (rd_T52 t183 t186).f2⟩ : S52) (Kd.R_mono ge29_2 (fun _ h_ => Or.inl h_))) (fun _ hk => hk) (fun k_ hk_ => hk_.elim)
                have hx29_1 := hcc29 1 _ rfl
                (try simp only [show (k52).sz = 3 from rfl, Nat.mul_one, Nat.add_zero] at hx29_1)
                have hf29_1 := hfr29 1
                (try simp only [show (k52).sz = 3 from rfl, Nat.mul_one, Nat.add_zero] at hf29_1)
                clear hcl29 hcc29 hfr29 hM29 hoki29 hH29
                try go_wp2_with (first | ((with_reducible refine gate_store (t := 2) (p := 47) rfl ?_); refine store_event (t := 2) (p := 47) (v := ?vo_w30) (w1 := (w28.setCell ⟨go23, (t186 : Int).toNat * 3 + 1, none⟩ (.int .i64 ((rd_T56 ((rd_T52 t183 t186).f2) (ji20)).f0)))) ?hg ?ho ?hn ?hr ?_; (case ho => rfl); (case hg => rfl); (case hn => rfl); (case hr => first | (go_simp; done) | (go_simp; rfl)); intro w30 hw; have hg : w28.grownBy w30 (some go23) := (by rw [hw]; exact HP29.2); have hp_ : Kd.S k52 52 w30 w.heap.size (fun _ => True) (.slice (some ⟨go23, 0, none⟩) t183.length co26) y192 := (by rw [hw, Ny192.out]; exact HP29.1); clear HP29; have n0_ := Aside0.mk (hp_); have n1_ := Aside0.mk (Kd.R_after (v := (.slice (some ⟨go23, 0, none⟩) t183.length co26)) (v1 := (.slice (some ⟨go23, 0, none⟩) t183.length co26)) (ok := (fun _ => True)) (by (with_reducible repeat (first | apply Kd.R_alloc | apply Kd.R_drewN | apply Kd.R_drew)); exact HL187_2.out) hg (.inl rfl)); have n2_ := Aside0.mk (Kd.R_after (v := (.slice (some ⟨go23, 0, none⟩) t183.length co26)) (v1 := (.slice (some ⟨go23, 0, none⟩) t183.length co26)) (ok := (fun _ => True)) (by (with_reducible repeat (first | apply Kd.R_alloc | apply Kd.R_drewN | apply Kd.R_drew)); exact HL188_2.out) hg (.inl rfl)); have n3_ := Aside0.mk (Kd.R_after (v := (.slice (some ⟨go23, 0, none⟩) t183.length co26)) (v1 := (.slice (some ⟨go23, 0, none⟩) t183.length co26)) (ok := (fun _ => True)) (by (with_reducible repeat (first | apply Kd.R_alloc | apply Kd.R_drewN | apply Kd.R_drew)); exact HL190_2.out) hg (.inl rfl)); have n4_ := Aside0.mk ((by rw [hw]; exact below_set (HB.out) GB23.out : Below w.heap.size w w30)); clear HO185; clear HL187_2; clear HL188_2; clear HL190_2; clear HB; have HO185 := n0_; have HL187_2 := n1_; have HL188_2 := n2_; have HL190_2 := n3_; have HB := n4_; clear n0_ n1_ n2_ n3_ n4_; clear hg hw hp_))
                go_ret2
                exact ⟨_, by first | rfl | (simp [errW_none, errW_some] <;> rfl) | (simp only [← hji20]; first | rfl | (simp [errW_none, errW_some] <;> rfl)) | (simp [*, errW_none, errW_some] <;> rfl), by (with_reducible repeat (first | apply Kd.S_alloc | apply Kd.S_drewN | apply Kd.S_drew)); exact HO185.out, by repeat (first | (with_reducible first | exact HB.out | apply below_alloc | apply pw_below_drewN | apply below_drew1) | exact HB.out)⟩
              · rw [if_neg c22] at H
                exact absurd H (by simp)
            · rw [if_neg c21] at H
              exact absurd H (by simp)
        · rw [if_neg c12] at H
          exact absurd H (by simp)
      · rw [if_neg c11] at H
        exact absurd H (by simp)
  · replace c4 := Bool.eq_false_iff.mpr c4
    subst c4
    have H1 : (some ((([] : List (S52))), false)) = some (r1, r2) := by rw [if_neg (show ¬ (false = true) by decide)] at H; exact H
    clear H
    have H := H1
    clear H1
    obtain ⟨y180, hy180⟩ : ∃ y_ : List (S52), y_ = (([] : List (S52))) := ⟨_, rfl⟩
    replace H : (some (y180, false)) = some (r1, r2) := by first | (rw [hy180]; with_reducible exact H) | (have H2_ := (Option.bind_some _ _).symm.trans H; rw [hy180]; with_reducible exact H2_) | (have H2_ := (Option.bind_some _ _).symm.trans H; with_reducible exact H2_) | with_reducible exact H | (rw [hy180]; exact H) | exact H
    have Ny180 := Aside0.mk hy180
    clear hy180
    simp only [Option.some.injEq, Prod.mk.injEq] at H
    obtain ⟨rfl, rfl⟩ := H
    go_enter Try.func16, Try.ntmps16
    go_wp2_with (first | ((with_reducible refine gate_callee (f := 10) rfl ?_); refine goesL_ (some 10) rfl rfl Try.func10 (by kernel_rfl) rfl #[.slice A0 l0.length c0] rfl (by (try simp only [List.map_toArray, List.map_cons, List.map_nil]); first | done | rfl | (simp only [List.length_drop, List.length_take]; rfl)) ?_; (with_reducible refine (spec_ProfilesOk.calls k _ _ l0 false _ ?side1 ?side2 A3.out).mono ?_); (case side1 => repeat (first | exact HR0.out | (with_reducible refine Kd.C_alloc ?_ _) | (with_reducible refine Kd.C_drewN ?_ _) | (with_reducible refine Kd.C_drew ?_))); (case side2 => exact HC0.out); rintro e w31 ⟨rfl, hb⟩; refine ⟨_, rfl, ?_⟩; have n0_ := Aside0.mk (below_step (by repeat (first | (with_reducible first | exact HB.out | apply below_alloc | apply pw_below_drewN | apply below_drew1) | exact HB.out)) hb); clear HB; have HB := n0_; clear n0_; (try clear hb); (try clear hb2); (try clear hk); (try clear hi)) | ((with_reducible refine gate_dst (N := 12) rfl ?_); refine Kd.S_lit k52 _ 52 ?hg (N := 12) ?hd (xs := ([] : List (S52))) (inner := []) (ok := fun _ => True) (okp := fun _ => True) ?hr ?hp (fun _ hk => hk) trivial (Below.refl _ _) (Nat.le_refl _) (by simp) ?_; (case hd => rfl); (case hg => rfl); (case hr => first | (go_simp; done) | (go_simp; rfl)); (case hp => exact (Reps.none _ _)); intro v181 w32 ho33 hb hg_ hnew_; clear hg_ hnew_; (first | rw [← Ny180.out] at ho33 | (simp only [Int.reduceToNat] at ho33; rw [← Ny180.out] at ho33)); have n0_ := Aside0.mk (Kd.S_lower ho33 (below_size (by repeat (first | (with_reducible first | exact HB.out | apply below_alloc | apply pw_below_drewN | apply below_drew1) | exact HB.out)))); have n1_ := Aside0.mk (below_step (by repeat (first | (with_reducible first | exact HB.out | apply below_alloc | apply pw_below_drewN | apply below_drew1) | exact HB.out)) hb); clear HB; have HO182 := n0_; have HB := n1_; clear n0_ n1_; clear hb ho33))
    go_ret2
    exact ⟨_, by first | rfl | (simp [errW_none, errW_some] <;> rfl) | (simp [*, errW_none, errW_some] <;> rfl), by (with_reducible repeat (first | apply Kd.S_alloc | apply Kd.S_drewN | apply Kd.S_drew)); exact HO182.out, by repeat (first | (with_reducible first | exact HB.out | apply below_alloc | apply pw_below_drewN | apply below_drew1) | exact HB.out)⟩

/-! ### impl_letter: function 58 -/
def impl_letter.f (a0 : Int) : Option (Bool) := if a0 ≥ 97 then (if a0 ≤ 122 then (some true) else (if a0 ≥ 65 then (some (decide (a0 ≤ 90))) else (some false))) else (if a0 ≥ 65 then (some (decide (a0 ≤ 90))) else (some false))
set_option maxHeartbeats 8000000 in
set_option maxRecDepth 100000 in
theorem impl_letter.calls (a0 : Int) (r : Bool) (w : World) (h : impl_letter.f a0 = some r) :
    Calls Try.prog 58 #[.int .u8 a0] w fun e w' => e = .returned (.bool r) ∧ Drawn0 w w' := by
  have H : (if a0 ≥ 97 then (if a0 ≤ 122 then (some true) else (if a0 ≥ 65 then (some (decide (a0 ≤ 90))) else (some false))) else (if a0 ≥ 65 then (some (decide (a0 ≤ 90))) else (some false))) = some r := h
  clear h
  by_cases c2 : a0 ≥ 97
  · rw [if_pos c2] at H
    have c2b0 : decide (97 ≤ a0) = true := decide_eq_true c2
    clear c2
    by_cases c3 : a0 ≤ 122
    · rw [if_pos c3] at H
      have c3b0 : decide (a0 ≤ 122) = true := decide_eq_true c3
      clear c3
      obtain rfl := Option.some.inj H
      go_enter Try.func58, Try.ntmps58
      go_wp2
      go_ret
      exact ⟨by first | rfl | (simp; done) | (simp [*]; done), by repeat (first | exact Drawn0.refl _ | apply Drawn0.step)⟩
    · rw [if_neg c3] at H
      have c3b0 : decide (a0 ≤ 122) = false := decide_eq_false c3
      clear c3
      by_cases c4 : a0 ≥ 65
      · rw [if_pos c4] at H
        have c4b0 : decide (65 ≤ a0) = true := decide_eq_true c4
        clear c4
        obtain rfl := Option.some.inj H
        go_enter Try.func58, Try.ntmps58
        go_wp2
        go_ret
        exact ⟨by first | rfl | (simp; done) | (simp [*]; done), by repeat (first | exact Drawn0.refl _ | apply Drawn0.step)⟩
      · rw [if_neg c4] at H
        have c4b0 : decide (65 ≤ a0) = false := decide_eq_false c4
        clear c4
        obtain rfl := Option.some.inj H
        go_enter Try.func58, Try.ntmps58
        go_wp2
        go_ret
        exact ⟨by first | rfl | (simp; done) | (simp [*]; done), by repeat (first | exact Drawn0.refl _ | apply Drawn0.step)⟩
  · rw [if_neg c2] at H
    have c2b0 : decide (97 ≤ a0) = false := decide_eq_false c2
    clear c2
    by_cases c5 : a0 ≥ 65
    · rw [if_pos c5] at H
      have c5b0 : decide (65 ≤ a0) = true := decide_eq_true c5
      clear c5
      obtain rfl := Option.some.inj H
      go_enter Try.func58, Try.ntmps58
      go_wp2
      go_ret
      exact ⟨by first | rfl | (simp; done) | (simp [*]; done), by repeat (first | exact Drawn0.refl _ | apply Drawn0.step)⟩
    · rw [if_neg c5] at H
      have c5b0 : decide (65 ≤ a0) = false := decide_eq_false c5
      clear c5
      obtain rfl := Option.some.inj H
      go_enter Try.func58, Try.ntmps58
      go_wp2
      go_ret
      exact ⟨by first | rfl | (simp; done) | (simp [*]; done), by repeat (first | exact Drawn0.refl _ | apply Drawn0.step)⟩

/-! ### impl_digit: function 59 -/
def impl_digit.f (a0 : Int) : Option (Bool) := if a0 ≥ 48 then (some (decide (a0 ≤ 57))) else (some false)
set_option maxHeartbeats 8000000 in
set_option maxRecDepth 100000 in
theorem impl_digit.calls (a0 : Int) (r : Bool) (w : World) (h : impl_digit.f a0 = some r) :
    Calls Try.prog 59 #[.int .u8 a0] w fun e w' => e = .returned (.bool r) ∧ Drawn0 w w' := by
  have H : (if a0 ≥ 48 then (some (decide (a0 ≤ 57))) else (some false)) = some r := h
  clear h
  by_cases c2 : a0 ≥ 48
  · rw [if_pos c2] at H
    have c2b0 : decide (48 ≤ a0) = true := decide_eq_true c2
    clear c2
    obtain rfl := Option.some.inj H
    go_enter Try.func59, Try.ntmps59
    go_wp2
    go_ret
    exact ⟨by first | rfl | (simp; done) | (simp [*]; done), by repeat (first | exact Drawn0.refl _ | apply Drawn0.step)⟩
  · rw [if_neg c2] at H
    have c2b0 : decide (48 ≤ a0) = false := decide_eq_false c2
    clear c2
    obtain rfl := Option.some.inj H
    go_enter Try.func59, Try.ntmps59
    go_wp2
    go_ret
    exact ⟨by first | rfl | (simp; done) | (simp [*]; done), by repeat (first | exact Drawn0.refl _ | apply Drawn0.step)⟩

-- NOT PRINTED: function 78 (bytealg_IndexByteString)

-- NOT PRINTED: function 77 (stringslite_IndexByte)

end Go.Proofs.Ytbgnjnlecpdfaaa.PFnExactRollback
