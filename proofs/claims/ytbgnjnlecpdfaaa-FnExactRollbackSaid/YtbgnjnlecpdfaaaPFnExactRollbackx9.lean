-- Laid by a program of this session: a turned copy of the kit's print, with contracts by hand beside.
import Derived.Test.YtbgnjnlecpdfaaaPFnExactRollbackx0
import Derived.Test.YtbgnjnlecpdfaaaPFnExactRollbackx8
namespace Go.Proofs.Ytbgnjnlecpdfaaa.PFnExactRollback
open Go.RowKit Go.Proofs.YtbgnjnlecpdfaaaW.PrintWords Go.Proofs.YtbgnjnlecpdfaaaW.PrintLast Go.Proofs.YtbgnjnlecpdfaaaW.PrintMore
attribute [local go_sem] max2_int min2_int max_two min_two max_three min_three max_four min_four   -- for this text's walks alone
set_option linter.unusedVariables false
set_option linter.unusedSimpArgs false

/-! ### impl_profileOf: function 39 -/
def impl_profileOf.l0 : Nat → ByteArray → List (S52) → Int → Int → Option (Int)
  | 0, _, _, _, _ => none
  | k + 1, x1, x7, x8, x9 => if x9 < x8 then (if 0 ≤ x9 then (if x9 < (x7.length : Int) then (if ((rd_T52 x7 x9).f0).toList = x1.toList then (some x9) else (impl_profileOf.l0 k x1 x7 x8 (wrap64 (x9 + 1)))) else (none)) else (none)) else (some (-1))
def impl_profileOf.f (k : Nat) (l0 : List (S52)) (a1 : ByteArray) : Option (Int) := impl_profileOf.l0 k a1 l0 (l0.length : Int) 0
theorem impl_profileOf.mono_l : ∀ k, (∀ y0 y1 y2 y3, LeO (impl_profileOf.l0 k y0 y1 y2 y3) (impl_profileOf.l0 (k + 1) y0 y1 y2 y3))
  | 0 => fun _ _ _ _ r h => by simp [impl_profileOf.l0] at h
  | k + 1 => by
    have ih0 := impl_profileOf.mono_l k
    · intro y0 y1 y2 y3
      unfold impl_profileOf.l0
      repeat' first
      | (with_reducible exact ih0 _ _ _ _)
      | (with_reducible exact LeO.refl _)
      | (with_reducible exact LeO.none _)
      | (with_reducible refine LeO.ite ?_ ?_)
      | (with_reducible refine LeO.bind ?_ (fun _ => ?_))
      | exact ih0 _ _ _ _
      | exact LeO.none _
      | refine LeO.ite ?_ ?_
      | refine LeO.bind ?_ (fun _ => ?_)
theorem impl_profileOf.mono : ∀ a0 a1 k, LeO (impl_profileOf.f k a0 a1) (impl_profileOf.f (k + 1) a0 a1) := by
  intro a0 a1 k
  have ih0 := impl_profileOf.mono_l k
  unfold impl_profileOf.f
  repeat' first
      | (with_reducible exact ih0 _ _ _ _)
      | (with_reducible exact LeO.refl _)
      | (with_reducible exact LeO.none _)
      | (with_reducible refine LeO.ite ?_ ?_)
      | (with_reducible refine LeO.bind ?_ (fun _ => ?_))
      | exact ih0 _ _ _ _
      | exact LeO.none _
      | refine LeO.ite ?_ ?_
      | refine LeO.bind ?_ (fun _ => ?_)
set_option maxHeartbeats 8000000 in
set_option maxRecDepth 100000 in
theorem impl_profileOf.calls (k : Nat) (A0 : Option Addr) (c0 : Nat) (l0 : List (S52)) (a1 : ByteArray) (r : Int) (w : World) (hr0 : Kd.C k52 w A0 l0.length l0) (hc0 : l0.length ≤ c0) (h : impl_profileOf.f k l0 a1 = some r) :
    Calls Try.prog 39 #[.slice A0 l0.length c0, .string a1] w fun e w' => e = .returned (.int .i64 r) ∧ Below w.heap.size w w' := by
  have hu52 := Try.underlying52
  have HR0 := Aside0.mk hr0
  have HC0 := Aside0.mk hc0
  clear hr0 hc0
  have HB := Aside0.mk (Below.refl w.heap.size w)
  have H : (impl_profileOf.l0 k a1 l0 (l0.length : Int) 0) = some r := h
  clear h
  have H' := Aside0.mk H
  clear H
  go_enter Try.func39, Try.ntmps39
  go_wp2
  go_loopg [9] k (fun kq v9 w' => ∃ (x9_1 : Int), v9 = .int .i64 x9_1 ∧ Aside0 (impl_profileOf.l0 kq a1 l0 (l0.length : Int) x9_1 = some r) ∧ Aside0 (kq ≤ k) ∧ Aside0 (Below w.heap.size w w'))
  case atStart => exact ⟨(0), (by first | rfl | (simp; done) | (simp [*]; done)), H', ⟨Nat.le_refl _⟩, ⟨by repeat (first | (with_reducible first | exact HB.out | apply below_alloc | apply pw_below_drewN | apply below_drew1) | exact HB.out)⟩⟩
  case round =>
    clear H'
    try clear p2
    obtain ⟨x9_1, rfl, HA, HK1, HB⟩ := hrel
    cases gk with
    | zero => exact absurd HA.out (by simp [impl_profileOf.l0])
    | succ k1 =>
      have H := HA.out
      clear HA
      simp only [impl_profileOf.l0] at H
      by_cases c3 : x9_1 < (l0.length : Int)
      · rw [if_pos c3] at H
        have c3b0 : decide (x9_1 < (l0.length : Int)) = true := decide_eq_true c3
        clear c3
        by_cases c4 : 0 ≤ x9_1
        · rw [if_pos c4] at H
          have c4b0 : decide (0 ≤ x9_1) = true := decide_eq_true c4
          clear c4
          by_cases c5 : x9_1 < (l0.length : Int)
          · rw [if_pos c5] at H
            have c5b0 : decide (x9_1 < (l0.length : Int)) = true := decide_eq_true c5
            clear c5
            by_cases c6 : ((rd_T52 l0 x9_1).f0).toList = a1.toList
            · rw [if_pos c6] at H
              have c6b0 : (((rd_T52 l0 x9_1).f0).toList == a1.toList) = true := beq_iff_eq.mpr c6
              have c6b1 : (((rd_T52 l0 x9_1).f0).toList != a1.toList) = false := bne_eq_false_iff_eq.mpr c6
              clear c6
              obtain rfl := Option.some.inj H
              have p209 : 0 ≤ (x9_1 : Int) := of_decide_eq_true (by first | (with_reducible assumption) | assumption)
              have q209 : x9_1 < (l0.length : Int) := of_decide_eq_true (by first | (with_reducible assumption) | assumption)
              obtain ⟨ad209, A209_2, c209_2, e209, hx209_0, hx209_1, hx209_2, hl209_2, hi209_2⟩ := at_T52 HR0.out x9_1 p209 q209
              cases e209
              try (replace hx209_0 := (HB.out.cell (World.block_lt_of_cell? w _ hx209_0)).trans hx209_0)
              try (replace hx209_1 := (HB.out.cell (World.block_lt_of_cell? w _ hx209_1)).trans hx209_1)
              try (replace hx209_2 := (HB.out.cell (World.block_lt_of_cell? w _ hx209_2)).trans hx209_2)
              have HR209_2 := Aside0.mk hi209_2
              have HC209_2 := Aside0.mk hl209_2
              clear hi209_2 hl209_2
              replace p209 := eq_true p209
              replace q209 := eq_true q209
              go_wp2_with (first | ((with_reducible refine gate_dst (N := 6) rfl ?_); refine box_event ?hg (N := 6) ?hd (cs := #[.string (⟨#[]⟩ : ByteArray), .int .i64 0, .slice none 0 0]) (t := 52) ?hr ?_; (case hd => rfl); (case hg => rfl); (case hr => first | (go_simp; done) | (go_simp; rfl)); intro gb210 hg w7 hbox hb; have n0_ := Aside0.mk (below_step (by repeat (first | (with_reducible first | exact HB.out | apply below_alloc | apply pw_below_drewN | apply below_drew1) | exact HB.out)) hb); have n1_ := Aside0.mk (hbox); have n2_ := Aside0.mk ((by rw [hg]; exact (below_size (by repeat (first | (with_reducible first | exact HB.out | apply below_alloc | apply pw_below_drewN | apply below_drew1) | exact HB.out))) : w.heap.size ≤ gb210)); have n3_ := Aside0.mk ((by rw [hg]; exact (below_size (by repeat (first | (with_reducible first | exact HB.out | apply below_alloc | apply pw_below_drewN | apply below_drew1) | exact HB.out))) : w.heap.size ≤ gb210)); clear HB; have HB := n0_; have BK210 := n1_; have GW210 := n2_; have GE210 := n3_; clear n0_ n1_ n2_ n3_; clear hb hbox hg; have hcz8_0 : w7.cell? ⟨gb210, 0, none⟩ = some (.string (⟨#[]⟩ : ByteArray)) := (blk_cell BK210.out 0).trans rfl; have hcz8_1 : w7.cell? ⟨gb210, 1, none⟩ = some (.int .i64 0) := (blk_cell BK210.out 1).trans rfl; have hcz8_2 : w7.cell? ⟨gb210, 2, none⟩ = some (.slice none 0 0) := (blk_cell BK210.out 2).trans rfl; have hfz8_0 := blk_frozen BK210.out 0; have hfz8_1 := blk_frozen BK210.out 1; have hfz8_2 := blk_frozen BK210.out 2))
              go_ret
              exact ⟨by first | rfl | (simp [errW_none, errW_some] <;> rfl) | (simp [*, errW_none, errW_some] <;> rfl), by repeat (first | (with_reducible first | exact HB.out | apply below_alloc | apply pw_below_drewN | apply below_drew1 | refine below_set ?_ GE210.out) | exact HB.out)⟩
            · rw [if_neg c6] at H
              have c6b0 : (((rd_T52 l0 x9_1).f0).toList == a1.toList) = false := beq_eq_false_iff_ne.mpr c6
              have c6b1 : (((rd_T52 l0 x9_1).f0).toList != a1.toList) = true := bne_iff_ne.mpr c6
              have H' := Aside0.mk H
              clear H
              have p209 : 0 ≤ (x9_1 : Int) := of_decide_eq_true (by first | (with_reducible assumption) | assumption)
              have q209 : x9_1 < (l0.length : Int) := of_decide_eq_true (by first | (with_reducible assumption) | assumption)
              obtain ⟨ad209, A209_2, c209_2, e209, hx209_0, hx209_1, hx209_2, hl209_2, hi209_2⟩ := at_T52 HR0.out x9_1 p209 q209
              cases e209
              try (replace hx209_0 := (HB.out.cell (World.block_lt_of_cell? w _ hx209_0)).trans hx209_0)
              try (replace hx209_1 := (HB.out.cell (World.block_lt_of_cell? w _ hx209_1)).trans hx209_1)
              try (replace hx209_2 := (HB.out.cell (World.block_lt_of_cell? w _ hx209_2)).trans hx209_2)
              have HR209_2 := Aside0.mk hi209_2
              have HC209_2 := Aside0.mk hl209_2
              clear hi209_2 hl209_2
              replace p209 := eq_true p209
              replace q209 := eq_true q209
              go_wp2_with (first | ((with_reducible refine gate_dst (N := 6) rfl ?_); refine box_event ?hg (N := 6) ?hd (cs := #[.string (⟨#[]⟩ : ByteArray), .int .i64 0, .slice none 0 0]) (t := 52) ?hr ?_; (case hd => rfl); (case hg => rfl); (case hr => first | (go_simp; done) | (go_simp; rfl)); intro gb210 hg w9 hbox hb; have n0_ := Aside0.mk (below_step (by repeat (first | (with_reducible first | exact HB.out | apply below_alloc | apply pw_below_drewN | apply below_drew1) | exact HB.out)) hb); have n1_ := Aside0.mk (hbox); have n2_ := Aside0.mk ((by rw [hg]; exact (below_size (by repeat (first | (with_reducible first | exact HB.out | apply below_alloc | apply pw_below_drewN | apply below_drew1) | exact HB.out))) : w.heap.size ≤ gb210)); have n3_ := Aside0.mk ((by rw [hg]; exact (below_size (by repeat (first | (with_reducible first | exact HB.out | apply below_alloc | apply pw_below_drewN | apply below_drew1) | exact HB.out))) : w.heap.size ≤ gb210)); clear HB; have HB := n0_; have BK210 := n1_; have GW210 := n2_; have GE210 := n3_; clear n0_ n1_ n2_ n3_; clear hb hbox hg; have hcz10_0 : w9.cell? ⟨gb210, 0, none⟩ = some (.string (⟨#[]⟩ : ByteArray)) := (blk_cell BK210.out 0).trans rfl; have hcz10_1 : w9.cell? ⟨gb210, 1, none⟩ = some (.int .i64 0) := (blk_cell BK210.out 1).trans rfl; have hcz10_2 : w9.cell? ⟨gb210, 2, none⟩ = some (.slice none 0 0) := (blk_cell BK210.out 2).trans rfl; have hfz10_0 := blk_frozen BK210.out 0; have hfz10_1 := blk_frozen BK210.out 1; have hfz10_2 := blk_frozen BK210.out 2))
              go_roundg k1
              case measure => have := HK1.out; omega
              case rel => exact ⟨(wrap64 (x9_1 + 1)), (by first | rfl | (simp; done) | (simp [*]; done)), H', ⟨by have := HK1.out; omega⟩, ⟨by repeat (first | (with_reducible first | exact HB.out | apply below_alloc | apply pw_below_drewN | apply below_drew1 | refine below_set ?_ GE210.out) | exact HB.out)⟩⟩
          · rw [if_neg c5] at H
            exact absurd H (by simp)
        · rw [if_neg c4] at H
          exact absurd H (by simp)
      · rw [if_neg c3] at H
        have c3b0 : decide (x9_1 < (l0.length : Int)) = false := decide_eq_false c3
        clear c3
        obtain rfl := Option.some.inj H
        go_wp2
        go_ret
        exact ⟨by first | rfl | (simp [errW_none, errW_some] <;> rfl) | (simp [*, errW_none, errW_some] <;> rfl), by repeat (first | (with_reducible first | exact HB.out | apply below_alloc | apply pw_below_drewN | apply below_drew1) | exact HB.out)⟩

/-! ### impl_copyProfiles: function 42 -/
def impl_copyProfiles.l0 : Nat → List (S52) → List (S52) → Int → Int → Option ((List (S52)))
  | 0, _, _, _, _ => none
  | k + 1, x3, x7, x8, x9 => if x9 < x8 then (if 0 ≤ x9 then (if x9 < (x7.length : Int) then ((some (([] : List (S56)) : List (S56))).bind fun y216 => (if y216.length + ((rd_T52 x7 x9).f2).length < 5864062014805 then (if x3.length < 2932031007402 then (impl_copyProfiles.l0 k (x3 ++ [(⟨(rd_T52 x7 x9).f0, (rd_T52 x7 x9).f1, (y216 ++ ((rd_T52 x7 x9).f2))⟩ : S52)]) x7 x8 (wrap64 (x9 + 1))) else (none)) else (none))) else (none)) else (none)) else (some x3)
def impl_copyProfiles.f (k : Nat) (l0 : List (S52)) : Option ((List (S52))) := impl_copyProfiles.l0 k (([] : List (S52))) l0 (l0.length : Int) 0
theorem impl_copyProfiles.mono_l : ∀ k, (∀ y0 y1 y2 y3, LeO (impl_copyProfiles.l0 k y0 y1 y2 y3) (impl_copyProfiles.l0 (k + 1) y0 y1 y2 y3))
  | 0 => fun _ _ _ _ r h => by simp [impl_copyProfiles.l0] at h
  | k + 1 => by
    have ih0 := impl_copyProfiles.mono_l k
    · intro y0 y1 y2 y3
      unfold impl_copyProfiles.l0
      repeat' first
      | (with_reducible exact ih0 _ _ _ _)
      | (with_reducible exact LeO.refl _)
      | (with_reducible exact LeO.none _)
      | (with_reducible refine LeO.ite ?_ ?_)
      | (with_reducible refine LeO.bind ?_ (fun _ => ?_))
      | exact ih0 _ _ _ _
      | exact LeO.none _
      | refine LeO.ite ?_ ?_
      | refine LeO.bind ?_ (fun _ => ?_)
theorem impl_copyProfiles.mono : ∀ a0 k, LeO (impl_copyProfiles.f k a0) (impl_copyProfiles.f (k + 1) a0) := by
  intro a0 k
  have ih0 := impl_copyProfiles.mono_l k
  unfold impl_copyProfiles.f
  repeat' first
      | (with_reducible exact ih0 _ _ _ _)
      | (with_reducible exact LeO.refl _)
      | (with_reducible exact LeO.none _)
      | (with_reducible refine LeO.ite ?_ ?_)
      | (with_reducible refine LeO.bind ?_ (fun _ => ?_))
      | exact ih0 _ _ _ _
      | exact LeO.none _
      | refine LeO.ite ?_ ?_
      | refine LeO.bind ?_ (fun _ => ?_)
set_option maxHeartbeats 8000000 in
set_option maxRecDepth 100000 in
theorem impl_copyProfiles.calls (k : Nat) (A0 : Option Addr) (c0 : Nat) (l0 : List (S52)) (r : List (S52)) (w : World) (hr0 : Kd.C k52 w A0 l0.length l0) (hc0 : l0.length ≤ c0) (h : impl_copyProfiles.f k l0 = some r) :
    Calls Try.prog 42 #[.slice A0 l0.length c0] w fun e w' => ∃ v0_ : Value, e = .returned (v0_) ∧ Kd.S k52 52 w' w.heap.size (fun _ => True) v0_ r ∧ Below w.heap.size w w' := by
  have hu52 := Try.underlying52
  have HR0 := Aside0.mk hr0
  have HC0 := Aside0.mk hc0
  clear hr0 hc0
  have HB := Aside0.mk (Below.refl w.heap.size w)
  have H : (impl_copyProfiles.l0 k (([] : List (S52))) l0 (l0.length : Int) 0) = some r := h
  clear h
  obtain ⟨y211, hy211⟩ : ∃ y_ : List (S52), y_ = (([] : List (S52))) := ⟨_, rfl⟩
  replace H : (impl_copyProfiles.l0 k y211 l0 (l0.length : Int) 0) = some r := by first | (rw [hy211]; with_reducible exact H) | (have H2_ := (Option.bind_some _ _).symm.trans H; rw [hy211]; with_reducible exact H2_) | (have H2_ := (Option.bind_some _ _).symm.trans H; with_reducible exact H2_) | with_reducible exact H | (rw [hy211]; exact H) | exact H
  have Ny211 := Aside0.mk hy211
  clear hy211
  have H' := Aside0.mk H
  clear H
  go_enter Try.func42, Try.ntmps42
  go_wp2_with (first | ((with_reducible refine gate_dst (N := 6) rfl ?_); refine Kd.S_lit k52 _ 52 ?hg (N := 6) ?hd (xs := ([] : List (S52))) (inner := []) (ok := fun _ => True) (okp := fun _ => True) ?hr ?hp (fun _ hk => hk) trivial (Below.refl _ _) (Nat.le_refl _) (by simp) ?_; (case hd => rfl); (case hg => rfl); (case hr => first | (go_simp; done) | (go_simp; rfl)); (case hp => exact (Reps.none _ _)); intro v212 w2 ho3 hb hg_ hnew_; clear hg_ hnew_; (first | rw [← Ny211.out] at ho3 | (simp only [Int.reduceToNat] at ho3; rw [← Ny211.out] at ho3)); have n0_ := Aside0.mk (Kd.S_lower ho3 (below_size (by repeat (first | (with_reducible first | exact HB.out | apply below_alloc | apply pw_below_drewN | apply below_drew1) | exact HB.out)))); have n1_ := Aside0.mk (below_step (by repeat (first | (with_reducible first | exact HB.out | apply below_alloc | apply pw_below_drewN | apply below_drew1) | exact HB.out)) hb); clear HB; have HO213 := n0_; have HB := n1_; clear n0_ n1_; clear hb ho3))
  go_loopg [3, 9] k (fun kq v3 v9 w' => ∃ (x3_1 : List (S52)) (x9_1 : Int), v9 = .int .i64 x9_1 ∧ Aside0 (impl_copyProfiles.l0 kq x3_1 l0 (l0.length : Int) x9_1 = some r) ∧ Aside0 (kq ≤ k) ∧ Aside0 (Kd.S k52 52 w' w.heap.size (fun _ => True) v3 x3_1) ∧ Aside0 (Below w.heap.size w w'))
  case atStart => exact ⟨(y211), (0), (by first | rfl | (simp; done) | (simp [*]; done)), H', ⟨Nat.le_refl _⟩, ⟨by (with_reducible repeat (first | apply Kd.S_alloc | apply Kd.S_drewN | apply Kd.S_drew)); exact HO213.out⟩, ⟨by repeat (first | (with_reducible first | exact HB.out | apply below_alloc | apply pw_below_drewN | apply below_drew1) | exact HB.out)⟩⟩
  case round =>
    clear H'
    try clear p2
    obtain ⟨x3_1, x9_1, rfl, HA, HK1, HO_3, HB⟩ := hrel
    cases gk with
    | zero => exact absurd HA.out (by simp [impl_copyProfiles.l0])
    | succ k1 =>
      have H := HA.out
      clear HA
      simp only [impl_copyProfiles.l0] at H
      by_cases c4 : x9_1 < (l0.length : Int)
      · rw [if_pos c4] at H
        have c4b0 : decide (x9_1 < (l0.length : Int)) = true := decide_eq_true c4
        clear c4
        by_cases c5 : 0 ≤ x9_1
        · rw [if_pos c5] at H
          have c5b0 : decide (0 ≤ x9_1) = true := decide_eq_true c5
          clear c5
          by_cases c6 : x9_1 < (l0.length : Int)
          · rw [if_pos c6] at H
            have c6b0 : decide (x9_1 < (l0.length : Int)) = true := decide_eq_true c6
            clear c6
            obtain ⟨y216, hy216⟩ : ∃ y_ : List (S56), y_ = (([] : List (S56))) := ⟨_, rfl⟩
            replace H : (if y216.length + ((rd_T52 l0 x9_1).f2).length < 5864062014805 then (if x3_1.length < 2932031007402 then (impl_copyProfiles.l0 k1 (x3_1 ++ [(⟨(rd_T52 l0 x9_1).f0, (rd_T52 l0 x9_1).f1, (y216 ++ ((rd_T52 l0 x9_1).f2))⟩ : S52)]) l0 (l0.length : Int) (wrap64 (x9_1 + 1))) else (none)) else (none)) = some r := by first | (rw [hy216]; with_reducible exact H) | (have H2_ := (Option.bind_some _ _).symm.trans H; rw [hy216]; with_reducible exact H2_) | (have H2_ := (Option.bind_some _ _).symm.trans H; with_reducible exact H2_) | with_reducible exact H | (rw [hy216]; exact H) | exact H
            have Ny216 := Aside0.mk hy216
            clear hy216
            by_cases c7 : y216.length + ((rd_T52 l0 x9_1).f2).length < 5864062014805
            · rw [if_pos c7] at H
              have LMc7 := Aside0.mk c7
              clear c7
              obtain ⟨y219, hy219⟩ : ∃ y_ : List (S56), y_ = (y216 ++ ((rd_T52 l0 x9_1).f2)) := ⟨_, rfl⟩
              replace H : (if x3_1.length < 2932031007402 then (impl_copyProfiles.l0 k1 (x3_1 ++ [(⟨(rd_T52 l0 x9_1).f0, (rd_T52 l0 x9_1).f1, y219⟩ : S52)]) l0 (l0.length : Int) (wrap64 (x9_1 + 1))) else (none)) = some r := by first | (rw [hy219]; with_reducible exact H) | (have H2_ := (Option.bind_some _ _).symm.trans H; rw [hy219]; with_reducible exact H2_) | (have H2_ := (Option.bind_some _ _).symm.trans H; with_reducible exact H2_) | with_reducible exact H | (rw [hy219]; exact H) | exact H
              have Ny219 := Aside0.mk hy219
              clear hy219
              by_cases c8 : x3_1.length < 2932031007402
              · rw [if_pos c8] at H
                have LMc8 := Aside0.mk c8
                clear c8
                obtain ⟨y222, hy222⟩ : ∃ y_ : List (S52), y_ = (x3_1 ++ [(⟨(rd_T52 l0 x9_1).f0, (rd_T52 l0 x9_1).f1, y219⟩ : S52)]) := ⟨_, rfl⟩
                replace H : (impl_copyProfiles.l0 k1 y222 l0 (l0.length : Int) (wrap64 (x9_1 + 1))) = some r := by first | (rw [hy222]; with_reducible exact H) | (have H2_ := (Option.bind_some _ _).symm.trans H; rw [hy222]; with_reducible exact H2_) | (have H2_ := (Option.bind_some _ _).symm.trans H; with_reducible exact H2_) | with_reducible exact H | (rw [hy222]; exact H) | exact H
                have Ny222 := Aside0.mk hy222
                clear hy222
                have H' := Aside0.mk H
                clear H
                have p214 : 0 ≤ (x9_1 : Int) := of_decide_eq_true (by first | (with_reducible assumption) | assumption)
                have q214 : x9_1 < (l0.length : Int) := of_decide_eq_true (by first | (with_reducible assumption) | assumption)
                obtain ⟨ad214, A214_2, c214_2, e214, hx214_0, hx214_1, hx214_2, hl214_2, hi214_2⟩ := at_T52 HR0.out x9_1 p214 q214
                cases e214
                try (replace hx214_0 := (HB.out.cell (World.block_lt_of_cell? w _ hx214_0)).trans hx214_0)
                try (replace hx214_1 := (HB.out.cell (World.block_lt_of_cell? w _ hx214_1)).trans hx214_1)
                try (replace hx214_2 := (HB.out.cell (World.block_lt_of_cell? w _ hx214_2)).trans hx214_2)
                have HR214_2 := Aside0.mk hi214_2
                have HC214_2 := Aside0.mk hl214_2
                clear hi214_2 hl214_2
                replace p214 := eq_true p214
                replace q214 := eq_true q214
                go_wp2_with (first | ((with_reducible refine gate_dst (N := 5) rfl ?_); refine box_event ?hg (N := 5) ?hd (cs := #[.string (⟨#[]⟩ : ByteArray), .int .i64 0, .slice none 0 0]) (t := 52) ?hr ?_; (case hd => rfl); (case hg => rfl); (case hr => first | (go_simp; done) | (go_simp; rfl) | (obtain ⟨_, _, e_⟩ := Kd.R_slice HO221.out; subst e_; first | (go_simp; done) | (go_simp; rfl))); intro gb215 hg w9 hbox hb; have n0_ := Aside0.mk (Kd.S_below (Kd.S_elderB (by (with_reducible repeat (first | apply Kd.S_alloc | apply Kd.S_drewN | apply Kd.S_drew)); exact HO_3.out) gb215 (Nat.le_of_eq hg.symm)) hb); have n1_ := Aside0.mk (below_step (by repeat (first | (with_reducible first | exact HB.out | apply below_alloc | apply pw_below_drewN | apply below_drew1) | exact HB.out)) hb); have n2_ := Aside0.mk (hbox); have n3_ := Aside0.mk ((by rw [hg]; exact (below_size (by repeat (first | (with_reducible first | exact HB.out | apply below_alloc | apply pw_below_drewN | apply below_drew1) | exact HB.out))) : w.heap.size ≤ gb215)); have n4_ := Aside0.mk ((by rw [hg]; exact (below_size (by repeat (first | (with_reducible first | exact HB.out | apply below_alloc | apply pw_below_drewN | apply below_drew1) | exact HB.out))) : w.heap.size ≤ gb215)); clear HO_3; clear HB; have HO_3 := n0_; have HB := n1_; have BK215 := n2_; have GW215 := n3_; have GE215 := n4_; clear n0_ n1_ n2_ n3_ n4_; clear hb hbox hg; have hcz10_0 : w9.cell? ⟨gb215, 0, none⟩ = some (.string (⟨#[]⟩ : ByteArray)) := (blk_cell BK215.out 0).trans rfl; have hcz10_1 : w9.cell? ⟨gb215, 1, none⟩ = some (.int .i64 0) := (blk_cell BK215.out 1).trans rfl; have hcz10_2 : w9.cell? ⟨gb215, 2, none⟩ = some (.slice none 0 0) := (blk_cell BK215.out 2).trans rfl; have hfz10_0 := blk_frozen BK215.out 0; have hfz10_1 := blk_frozen BK215.out 1; have hfz10_2 := blk_frozen BK215.out 2) | ((with_reducible refine gate_dst (N := 13) rfl ?_); refine Kd.R_lit k56 _ 56 ?hg (N := 13) ?hd (xs := ([] : List (S56))) (inner := []) (ok := fun _ => True) (okp := fun _ => True) ?hr ?hp (fun _ hk => hk) trivial (Below.refl _ _) (Nat.le_refl _) (by simp) ?_; (case hd => rfl); (case hg => rfl); (case hr => first | (go_simp; done) | (go_simp; rfl) | (obtain ⟨_, _, e_⟩ := Kd.R_slice HO221.out; subst e_; first | (go_simp; done) | (go_simp; rfl))); (case hp => exact (Reps.none _ _)); intro v217 w11 ho12 hb hg_ hnew_; clear hg_ hnew_; (first | rw [← Ny216.out] at ho12 | (simp only [Int.reduceToNat] at ho12; rw [← Ny216.out] at ho12)); have n0_ := Aside0.mk (Kd.S_elder' (by (with_reducible repeat (first | apply Kd.S_alloc | apply Kd.S_drewN | apply Kd.S_drew)); exact (Kd.S_mono (Kd.S_far (p := ⟨gb215, 2, none⟩) (Kd.S_far (p := ⟨gb215, 1, none⟩) (Kd.S_far (p := ⟨gb215, 0, none⟩) (Kd.S_mono HO_3.out (fun k_ hk => (⟨hk, hk.2⟩ : _ ∧ k_ ≠ gb215))) (fun _ hk => hk.2) (.string ((rd_T52 l0 x9_1).f0))) (fun _ hk => hk.2) (.int .i64 ((rd_T52 l0 x9_1).f1))) (fun _ hk => hk.2) (.slice A214_2 ((rd_T52 l0 x9_1).f2).length c214_2)) (fun _ h_ => h_.1))) (Kd.R_base ho12) hb); have n1_ := Aside0.mk (Kd.R_lower ho12 (below_size (by repeat (first | (with_reducible first | exact HB.out | apply below_alloc | apply pw_below_drewN | apply below_drew1 | refine below_set ?_ GE215.out) | exact HB.out)))); have n2_ := Aside0.mk (blk_below (g := gb215) (o := .cells #[.string ((rd_T52 l0 x9_1).f0), .int .i64 ((rd_T52 l0 x9_1).f1), .slice A214_2 ((rd_T52 l0 x9_1).f2).length c214_2] 52 (0, 0)) (by (with_reducible repeat (first | refine blk_drewN ?_ _ | refine blk_drew ?_ | refine blk_alloc ?_ _)); refine blk_put (cs := #[.string ((rd_T52 l0 x9_1).f0), .int .i64 ((rd_T52 l0 x9_1).f1), .slice none 0 0]) ?_ 2 _ rfl; (with_reducible repeat (first | refine blk_drewN ?_ _ | refine blk_drew ?_ | refine blk_alloc ?_ _)); refine blk_put (cs := #[.string ((rd_T52 l0 x9_1).f0), .int .i64 0, .slice none 0 0]) ?_ 1 _ rfl; (with_reducible repeat (first | refine blk_drewN ?_ _ | refine blk_drew ?_ | refine blk_alloc ?_ _)); refine blk_put (cs := #[.string (⟨#[]⟩ : ByteArray), .int .i64 0, .slice none 0 0]) ?_ 0 _ rfl; (with_reducible repeat (first | refine blk_drewN ?_ _ | refine blk_drew ?_ | refine blk_alloc ?_ _)); exact BK215.out) hb); have n3_ := Aside0.mk (below_step (by repeat (first | (with_reducible first | exact HB.out | apply below_alloc | apply pw_below_drewN | apply below_drew1 | refine below_set ?_ GE215.out) | exact HB.out)) hb); clear HO_3; clear BK215; clear HB; have HO_3 := n0_; have HO218 := n1_; have BK215 := n2_; have HB := n3_; clear n0_ n1_ n2_ n3_; clear hb ho12; have hcz13_0 : w11.cell? ⟨gb215, 0, none⟩ = some (.string ((rd_T52 l0 x9_1).f0)) := (blk_cell BK215.out 0).trans rfl; have hcz13_1 : w11.cell? ⟨gb215, 1, none⟩ = some (.int .i64 ((rd_T52 l0 x9_1).f1)) := (blk_cell BK215.out 1).trans rfl; have hcz13_2 : w11.cell? ⟨gb215, 2, none⟩ = some (.slice A214_2 ((rd_T52 l0 x9_1).f2).length c214_2) := (blk_cell BK215.out 2).trans rfl; have hfz13_0 := blk_frozen BK215.out 0; have hfz13_1 := blk_frozen BK215.out 1; have hfz13_2 := blk_frozen BK215.out 2) | ((with_reducible refine gate_builtin (b := .append) (xs := #[.tmp 13, .tmp 15]) rfl ?_); at_builtin; refine Kd.R_append_rows k56 (w0 := w) w.heap.size rfl (.tmp 13) (.tmp 15) 50 56 (.agg #[(.int .i64 0), (.string ⟨#[]⟩)]) 24 rfl Try.underlying50 info56 rfl (by decide) (by omega) v217 y216 ((rd_T52 l0 x9_1).f2) _ _ _ (fun _ => True) (fun _ => False) rfl rfl ?aO ?aR (fun _ _ h => h) (fun _ h => h.elim) ?aF ?aB ?aS ?aL ?_; (case aR => repeat (first | exact (Kd.C_below HR214_2.out HB.out) | (with_reducible refine Kd.C_alloc ?_ _) | (with_reducible refine Kd.C_drewN ?_ _) | (with_reducible refine Kd.C_drew ?_))); (case aB => exact (by repeat (first | (with_reducible first | exact HB.out | apply below_alloc | apply pw_below_drewN | apply below_drew1 | refine below_set ?_ GE215.out) | exact HB.out))); (case aF => exact (fun _ _ => trivial)); (case aO => exact (by (with_reducible repeat (first | apply Kd.R_alloc | apply Kd.R_drewN | apply Kd.R_drew)); exact HO218.out)); (case aS => exact (below_size (by repeat (first | (with_reducible first | exact HB.out | apply below_alloc | apply pw_below_drewN | apply below_drew1 | refine below_set ?_ GE215.out) | exact HB.out)))); (case aL => have := LMc7.out; omega); intro v220 w14 ho hb hg hat; rw [← Ny219.out] at ho; have n0_ := Aside0.mk (Kd.S_after (ok := (fun k_ => k_ ≠ gb215)) (by (with_reducible repeat (first | apply Kd.S_alloc | apply Kd.S_drewN | apply Kd.S_drew)); exact Kd.S_mono HO_3.out (fun _ hk => ⟨hk.1.2, hk.2⟩)) hg hat); have n1_ := Aside0.mk (blk_grown (g := gb215) (o := .cells #[.string ((rd_T52 l0 x9_1).f0), .int .i64 ((rd_T52 l0 x9_1).f1), .slice A214_2 ((rd_T52 l0 x9_1).f2).length c214_2] 52 (0, 0)) (by (with_reducible repeat (first | refine blk_drewN ?_ _ | refine blk_drew ?_ | refine blk_alloc ?_ _)); exact BK215.out) hg (Kd.R_ne HO218.out BK215.out (by decide))); have n2_ := Aside0.mk (hb); have n3_ := Aside0.mk (ho); clear HO_3; clear BK215; clear HB; clear HO218; have HO_3 := n0_; have BK215 := n1_; have HB := n2_; have HO221 := n3_; clear n0_ n1_ n2_ n3_; clear ho hb hg hat; obtain ⟨Ao15, co15, eo15⟩ := Kd.R_slice HO221.out; subst eo15; have hcz16_0 : w14.cell? ⟨gb215, 0, none⟩ = some (.string ((rd_T52 l0 x9_1).f0)) := (blk_cell BK215.out 0).trans rfl; have hcz16_1 : w14.cell? ⟨gb215, 1, none⟩ = some (.int .i64 ((rd_T52 l0 x9_1).f1)) := (blk_cell BK215.out 1).trans rfl; have hcz16_2 : w14.cell? ⟨gb215, 2, none⟩ = some (.slice A214_2 ((rd_T52 l0 x9_1).f2).length c214_2) := (blk_cell BK215.out 2).trans rfl; have hfz16_0 := blk_frozen BK215.out 0; have hfz16_1 := blk_frozen BK215.out 1; have hfz16_2 := blk_frozen BK215.out 2) | ((with_reducible refine gate_store (t := 50) (p := 17) rfl ?_); refine store_event (t := 50) (p := 17) (v := ?vo_w17) (w1 := (w14.setCell ⟨gb215, 2, none⟩ (.slice Ao15 y219.length co15))) ?hg ?ho ?hn ?hr ?_; (case ho => rfl); (case hg => rfl); (case hn => rfl); (case hr => first | (go_simp; done) | (go_simp; rfl) | (obtain ⟨_, _, e_⟩ := Kd.R_slice HO221.out; subst e_; first | (go_simp; done) | (go_simp; rfl))); intro w17 hw; have n0_ : Aside0 (Kd.S k52 52 w17 w.heap.size (fun k_ => some k_ ≠ (.slice Ao15 y219.length co15 : Value).ownBlock ∧ k_ ≠ gb215) u3 x3_1) := ⟨(by rw [hw]; exact (by (with_reducible repeat (first | apply Kd.S_alloc | apply Kd.S_drewN | apply Kd.S_drew)); exact Kd.S_mono (Kd.S_far (p := ⟨gb215, 2, none⟩) (Kd.S_mono HO_3.out (fun k_ hk => (⟨hk, hk.1⟩ : _ ∧ k_ ≠ gb215))) (fun _ hk => hk.2) (.slice Ao15 y219.length co15)) (fun _ hk => ⟨hk.1.2, hk.1.1⟩)))⟩; have n1_ : Aside0 (Kd.R k56 56 w17 w.heap.size (fun _ => True) (.slice Ao15 y219.length co15) y219) := ⟨(by rw [hw]; exact (by (with_reducible repeat (first | apply Kd.R_alloc | apply Kd.R_drewN | apply Kd.R_drew)); exact Kd.R_mono (Kd.R_far (p := ⟨gb215, 2, none⟩) (Kd.R_types HO221.out BK215.out (by decide)) (fun _ hk => hk.2) (.slice Ao15 y219.length co15)) (fun _ hk => trivial)))⟩; have n2_ : Aside0 (w17.heap[gb215]? = some (.cells #[.string ((rd_T52 l0 x9_1).f0), .int .i64 ((rd_T52 l0 x9_1).f1), .slice Ao15 y219.length co15] 52 (0, 0))) := ⟨(by rw [hw]; exact (by (with_reducible repeat (first | refine blk_drewN ?_ _ | refine blk_drew ?_ | refine blk_alloc ?_ _)); refine blk_put (cs := #[.string ((rd_T52 l0 x9_1).f0), .int .i64 ((rd_T52 l0 x9_1).f1), .slice A214_2 ((rd_T52 l0 x9_1).f2).length c214_2]) ?_ 2 _ rfl; (with_reducible repeat (first | refine blk_drewN ?_ _ | refine blk_drew ?_ | refine blk_alloc ?_ _)); exact BK215.out))⟩; have n3_ : Aside0 (Below w.heap.size w w17) := ⟨(by rw [hw]; exact (by repeat (first | (with_reducible first | exact HB.out | apply below_alloc | apply pw_below_drewN | apply below_drew1 | refine below_set ?_ GE215.out) | exact HB.out)))⟩; clear hw; clear HO_3; clear HO221; clear BK215; clear HB; have HO_3 := n0_; have HO221 := n1_; have BK215 := n2_; have HB := n3_; clear n0_ n1_ n2_ n3_; have hcz18_0 : w17.cell? ⟨gb215, 0, none⟩ = some (.string ((rd_T52 l0 x9_1).f0)) := (blk_cell BK215.out 0).trans rfl; have hcz18_1 : w17.cell? ⟨gb215, 1, none⟩ = some (.int .i64 ((rd_T52 l0 x9_1).f1)) := (blk_cell BK215.out 1).trans rfl; have hcz18_2 : w17.cell? ⟨gb215, 2, none⟩ = some (.slice Ao15 y219.length co15) := (blk_cell BK215.out 2).trans rfl; have hfz18_0 := blk_frozen BK215.out 0; have hfz18_1 := blk_frozen BK215.out 1; have hfz18_2 := blk_frozen BK215.out 2) | ((with_reducible refine gate_builtin (b := .append) (xs := #[.tmp 18, .tmp 20]) rfl ?_); at_builtin; refine Kd.S_append k52 (w0 := w) w.heap.size rfl (.tmp 18) (.tmp 20) 25 52 (.agg #[(.string ⟨#[]⟩), (.int .i64 0), (.slice none 0 0)]) 48 rfl Try.underlying25 info52 rfl (by decide) (by omega) u3 x3_1 (⟨(rd_T52 l0 x9_1).f0, (rd_T52 l0 x9_1).f1, y219⟩ : S52) [.string ((rd_T52 l0 x9_1).f0), .int .i64 ((rd_T52 l0 x9_1).f1), .slice Ao15 y219.length co15] (fun k_ => k_ ≠ gb215) (fun k_ => some k_ = (.slice Ao15 y219.length co15 : Value).ownBlock) rfl rfl ?aP (fun k_ hk_ => ((Kd.R_mono (ok' := fun k_ => ((fun k_ => k_ ≠ gb215)) k_ ∧ some k_ ≠ (u3 : Value).ownBlock) (Kd.R_types (Kd.R_apart' (HO221.out) (Kd.S_typed HO_3.out) (by decide)) BK215.out (by decide)) (fun k_ hk => ⟨hk.2, hk.1.2⟩))).1 k_ hk_.symm) ?aF ?aO ?aB ?aS ?aL ?_; (case aP => exact k52_mkM _ _ _ (⟨(rd_T52 l0 x9_1).f0, (rd_T52 l0 x9_1).f1, y219⟩ : S52) (Kd.R_mono (Kd.R_tight rfl (Kd.R_mono (ok' := fun k_ => ((fun k_ => k_ ≠ gb215)) k_ ∧ some k_ ≠ (u3 : Value).ownBlock) (Kd.R_types (Kd.R_apart' (HO221.out) (Kd.S_typed HO_3.out) (by decide)) BK215.out (by decide)) (fun k_ hk => ⟨hk.2, hk.1.2⟩))) (fun _ h_ => h_))); (case aB => exact (by repeat (first | (with_reducible first | exact HB.out | apply below_alloc | apply pw_below_drewN | apply below_drew1 | refine below_set ?_ GE215.out) | exact HB.out))); (case aF => exact (fun k_ hk => Kd.freshB (g := gb215) (o := .cells #[.string ((rd_T52 l0 x9_1).f0), .int .i64 ((rd_T52 l0 x9_1).f1), .slice Ao15 y219.length co15] 52 (0, 0)) (by (with_reducible repeat (first | refine blk_drewN ?_ _ | refine blk_drew ?_ | refine blk_alloc ?_ _)); exact BK215.out) k_ hk)); (case aO => exact (by (with_reducible repeat (first | apply Kd.S_alloc | apply Kd.S_drewN | apply Kd.S_drew)); exact Kd.S_mono HO_3.out (fun k_ hk => ⟨hk.2, fun e_ => hk.1 e_⟩))); (case aS => exact (below_size (by repeat (first | (with_reducible first | exact HB.out | apply below_alloc | apply pw_below_drewN | apply below_drew1 | refine below_set ?_ GE215.out) | exact HB.out)))); (case aL => have := LMc8.out; omega); intro v223 w19 ho hb hg hat; rw [← Ny222.out] at ho; have n0_ := Aside0.mk (blk_grown (g := gb215) (o := .cells #[.string ((rd_T52 l0 x9_1).f0), .int .i64 ((rd_T52 l0 x9_1).f1), .slice Ao15 y219.length co15] 52 (0, 0)) (by (with_reducible repeat (first | refine blk_drewN ?_ _ | refine blk_drew ?_ | refine blk_alloc ?_ _)); exact BK215.out) hg (Kd.S_away HO_3.out (fun _ hk => hk.2))); have n1_ := Aside0.mk (hb); have n2_ := Aside0.mk (ho); clear BK215; clear HB; clear HO_3; clear HO221; have BK215 := n0_; have HB := n1_; have HO224 := n2_; clear n0_ n1_ n2_; clear ho hb hg hat))
                go_roundg k1
                case measure => have := HK1.out; omega
                case rel => exact ⟨(y222), (wrap64 (x9_1 + 1)), (by first | rfl | (simp; done) | (simp [*]; done)), H', ⟨by have := HK1.out; omega⟩, ⟨by (with_reducible repeat (first | apply Kd.S_alloc | apply Kd.S_drewN | apply Kd.S_drew)); exact Kd.S_mono HO224.out (fun _ hk => trivial)⟩, ⟨by repeat (first | (with_reducible first | exact HB.out | apply below_alloc | apply pw_below_drewN | apply below_drew1 | refine below_set ?_ GE215.out) | exact HB.out)⟩⟩
              · rw [if_neg c8] at H
                exact absurd H (by simp)
            · rw [if_neg c7] at H
              exact absurd H (by simp)
          · rw [if_neg c6] at H
            exact absurd H (by simp)
        · rw [if_neg c5] at H
          exact absurd H (by simp)
      · rw [if_neg c4] at H
        have c4b0 : decide (x9_1 < (l0.length : Int)) = false := decide_eq_false c4
        clear c4
        obtain rfl := Option.some.inj H
        go_wp2
        go_ret
        exact ⟨_, by first | rfl | (simp [errW_none, errW_some] <;> rfl) | (simp [*, errW_none, errW_some] <;> rfl), by (with_reducible repeat (first | apply Kd.S_alloc | apply Kd.S_drewN | apply Kd.S_drew)); exact HO_3.out, by repeat (first | (with_reducible first | exact HB.out | apply below_alloc | apply pw_below_drewN | apply below_drew1) | exact HB.out)⟩

/-! ### impl_Rollback: function 17 -/
def rbFind (g : List S56) (now : Int) : Option Nat := g.findIdx? (fun x => decide (x.f0 = now))
def rbOut (o : List S52) (i : Int) : List S52 := match rbFind (rd_T52 o i).f2 (rd_T52 o i).f1 with | none => o | some j => o.set i.toNat (⟨(rd_T52 o i).f0, (rd_T56 (rd_T52 o i).f2 ((j : Int) - 1)).f0, (rd_T52 o i).f2⟩ : S52)
def rbEnd (o : List S52) (i : Int) : Option (List S52 × Bool) := if i < 0 then some (o, false) else if 0 ≤ i ∧ i < (o.length : Int) ∧ (rd_T52 o i).f2.length ≤ 1000000 then (if (rd_T52 o i).f1 = 0 then some (o, false) else if 0 < (rd_T52 o i).f2.length then (if (rd_T56 (rd_T52 o i).f2 0).f0 = (rd_T52 o i).f1 then some (o, false) else some (rbOut o i, true)) else none) else none
def impl_Rollback.f (k : Nat) (l0 : List S52) (a1 : ByteArray) : Option (List S52 × Bool) := (impl_ProfilesOk.f k l0).bind fun t => if t = true then (impl_copyProfiles.f k l0).bind fun o => (impl_profileOf.f k o a1).bind fun i => rbEnd o i else some ([], false)
theorem impl_Rollback.mono : ∀ a0 a1 k, LeO (impl_Rollback.f k a0 a1) (impl_Rollback.f (k + 1) a0 a1) := by
  intro a0 a1 k
  unfold impl_Rollback.f
  exact LeO.bind (impl_ProfilesOk.mono _ _) fun _ => LeO.ite (LeO.bind (impl_copyProfiles.mono _ _) fun _ => LeO.bind (impl_profileOf.mono _ _ _) fun _ => LeO.refl _) (LeO.refl _)
theorem rb_hit {g : List S56} {now : Int} {j : Nat} (hj : j < g.length) (h : (rd_T56 g (j : Int)).f0 = now) (hl : ∀ q, q < j → (rd_T56 g (q : Int)).f0 ≠ now) : rbFind g now = some j := by
  unfold rbFind
  rw [List.findIdx?_eq_some_iff_getElem]
  have e : ∀ q (hq : q < g.length), rd_T56 g (q : Int) = g[q] := fun q hq => by
    show g.getD (q : Int).toNat _ = _
    simp [List.getD_eq_getElem?_getD, List.getElem?_eq_getElem hq]
  refine ⟨hj, by rw [← e j hj]; exact decide_eq_true h, fun q hq => ?_⟩
  rw [← e q (by omega)]
  simpa using hl q hq
theorem rb_miss {g : List S56} {now : Int} (hl : ∀ q, q < g.length → (rd_T56 g (q : Int)).f0 ≠ now) : rbFind g now = none := by
  unfold rbFind
  rw [List.findIdx?_eq_none_iff]
  intro x hx
  obtain ⟨q, hq, rfl⟩ := List.mem_iff_getElem.1 hx
  have e : rd_T56 g (q : Int) = g[q] := by
    show g.getD (q : Int).toNat _ = _
    simp [List.getD_eq_getElem?_getD, List.getElem?_eq_getElem hq]
  rw [← e]
  simpa using hl q hq
set_option maxHeartbeats 8000000 in
set_option maxRecDepth 100000 in
theorem impl_Rollback.calls (k : Nat) (A0 : Option Addr) (c0 : Nat) (l0 : List (S52)) (a1 : ByteArray) (r1 : List (S52)) (r2 : Bool) (w : World) (hr0 : Kd.C k52 w A0 l0.length l0) (hc0 : l0.length ≤ c0) (h : impl_Rollback.f k l0 a1 = some (r1, r2)) :
    Calls Try.prog 17 #[.slice A0 l0.length c0, .string a1] w fun e w' => ∃ v0_ : Value, e = .returned (.tuple #[v0_, .bool r2]) ∧ Kd.S k52 52 w' w.heap.size (fun _ => True) v0_ r1 ∧ Below w.heap.size w w' := by
  have hu52 := Try.underlying52
  have HR0 := Aside0.mk hr0
  have HC0 := Aside0.mk hc0
  clear hr0 hc0
  have HB := Aside0.mk (Below.refl w.heap.size w)
  unfold impl_Rollback.f at h
  replace h := Option.bind_eq_some_iff.mp h
  obtain ⟨t, EE, h⟩ := h
  have E1 := Aside0.mk EE
  clear EE
  try dsimp only at h
  cases t with
  | false =>
    rw [if_neg (by simp)] at h
    obtain ⟨rfl, rfl⟩ : [] = r1 ∧ false = r2 := by simpa using h
    clear h
    go_enter Try.func17, Try.ntmps17
    go_wp2_with (first
      | (go_at_call 12; go_loud ((with_reducible refine (impl_ProfilesOk.calls k _ _ l0 false _ (Kd.C_below HR0.out HB.out) HC0.out E1.out).mono ?_); rintro e w1 ⟨rfl, hb⟩; have n0_ := Aside0.mk (below_step HB.out hb); clear HB hb; have HB := n0_; clear n0_ E1))
      | go_in)
    go_ret2
    exact ⟨_, rfl, Kd.S_nil k52 52 _ _ _, by repeat (first | (with_reducible first | exact HB.out | apply below_alloc | apply pw_below_drewN | apply below_drew1) | exact HB.out)⟩
  | true =>
    rw [if_pos rfl] at h
    replace h := Option.bind_eq_some_iff.mp h
    obtain ⟨o, EE, h⟩ := h
    have E2 := Aside0.mk EE
    clear EE
    try dsimp only at h
    replace h := Option.bind_eq_some_iff.mp h
    obtain ⟨i, EE, h⟩ := h
    have E3 := Aside0.mk EE
    clear EE
    try dsimp only at h
    unfold rbEnd at h
    by_cases c1 : i < 0
    · rw [if_pos c1] at h
      obtain ⟨rfl, rfl⟩ : o = r1 ∧ false = r2 := by simpa using h
      have b1 : decide (i < 0) = true := decide_eq_true c1
      clear c1 h
      go_enter Try.func17, Try.ntmps17
      go_wp2_with (first
        | (go_at_call 12; go_loud ((with_reducible refine (impl_ProfilesOk.calls k _ _ l0 true _ (Kd.C_below HR0.out HB.out) HC0.out E1.out).mono ?_); rintro e w1 ⟨rfl, hb⟩; have n0_ := Aside0.mk (below_step HB.out hb); clear HB hb; have HB := n0_; clear n0_ E1))
        | (go_at_call 42; go_loud ((with_reducible refine (impl_copyProfiles.calls k _ _ l0 o _ (Kd.C_below HR0.out HB.out) HC0.out E2.out).mono ?_); rintro e w2 ⟨v0, rfl, ho0, hb⟩; have HO := Aside0.mk (Kd.S_lower ho0 (below_size HB.out)); have n1_ := Aside0.mk (below_step HB.out hb); clear HB hb ho0; have HB := n1_; clear n1_ E2; obtain ⟨Ao, co, eo⟩ := Kd.S_slice HO.out; subst eo))
        | (go_at_call 39; go_loud ((with_reducible refine (impl_profileOf.calls k _ _ o a1 i _ (Kd.S_reads' HO.out).2.2 (Kd.S_reads' HO.out).2.1 E3.out).mono ?_); rintro e w3 ⟨rfl, hb⟩; have n0_ := Aside0.mk (below_step HB.out hb); have n1_ := Aside0.mk (Kd.S_below HO.out hb); clear HB HO hb; have HB := n0_; have HO := n1_; clear n0_ n1_ E3))
        | go_in)
      go_quiet (fail)
      go_wp2
      go_ret2
      exact ⟨_, rfl, by (with_reducible repeat (first | apply Kd.S_alloc | apply Kd.S_drewN | apply Kd.S_drew)); exact HO.out, by repeat (first | (with_reducible first | exact HB.out | apply below_alloc | apply pw_below_drewN | apply below_drew1) | exact HB.out)⟩
    · rw [if_neg c1] at h
      have b1 : decide (i < 0) = false := decide_eq_false c1
      by_cases c2 : 0 ≤ i ∧ i < (o.length : Int) ∧ (rd_T52 o i).f2.length ≤ 1000000
      · rw [if_pos c2] at h
        have p := c2.1
        have q := c2.2.1
        have HN := Aside0.mk c2.2.2
        clear c1 c2
        by_cases c3 : (rd_T52 o i).f1 = 0
        · rw [if_pos c3] at h
          obtain ⟨rfl, rfl⟩ : o = r1 ∧ false = r2 := by simpa using h
          clear h
          go_enter Try.func17, Try.ntmps17
          go_wp2_with (first
            | (go_at_call 12; go_loud ((with_reducible refine (impl_ProfilesOk.calls k _ _ l0 true _ (Kd.C_below HR0.out HB.out) HC0.out E1.out).mono ?_); rintro e w1 ⟨rfl, hb⟩; have n0_ := Aside0.mk (below_step HB.out hb); clear HB hb; have HB := n0_; clear n0_ E1))
            | (go_at_call 42; go_loud ((with_reducible refine (impl_copyProfiles.calls k _ _ l0 o _ (Kd.C_below HR0.out HB.out) HC0.out E2.out).mono ?_); rintro e w2 ⟨v0, rfl, ho0, hb⟩; have HO := Aside0.mk (Kd.S_lower ho0 (below_size HB.out)); have n1_ := Aside0.mk (below_step HB.out hb); clear HB hb ho0; have HB := n1_; clear n1_ E2; obtain ⟨Ao, co, eo⟩ := Kd.S_slice HO.out; subst eo))
            | (go_at_call 39; go_loud ((with_reducible refine (impl_profileOf.calls k _ _ o a1 i _ (Kd.S_reads' HO.out).2.2 (Kd.S_reads' HO.out).2.1 E3.out).mono ?_); rintro e w3 ⟨rfl, hb⟩; have n0_ := Aside0.mk (below_step HB.out hb); have n1_ := Aside0.mk (Kd.S_below HO.out hb); clear HB HO hb; have HB := n0_; have HO := n1_; clear n0_ n1_ E3))
            | go_in)
          have g1 := eq_true p
          have g2 := eq_true q
          obtain ⟨ad, A2, c2, e_, hx0, hx1, hx2, hl2, hi2⟩ := at_T52 (Kd.S_reads' HO.out).2.2 i p q
          subst e_
          rw [c3] at hx1
          go_quiet (fail)
          go_wp2
          go_ret2
          exact ⟨_, rfl, by (with_reducible repeat (first | apply Kd.S_alloc | apply Kd.S_drewN | apply Kd.S_drew)); exact HO.out, by repeat (first | (with_reducible first | exact HB.out | apply below_alloc | apply pw_below_drewN | apply below_drew1) | exact HB.out)⟩
        · rw [if_neg c3] at h
          by_cases c4 : 0 < (rd_T52 o i).f2.length
          · rw [if_pos c4] at h
            by_cases c5 : (rd_T56 (rd_T52 o i).f2 0).f0 = (rd_T52 o i).f1
            · rw [if_pos c5] at h
              obtain ⟨rfl, rfl⟩ : o = r1 ∧ false = r2 := by simpa using h
              clear h
              go_enter Try.func17, Try.ntmps17
              go_wp2_with (first
                | (go_at_call 12; go_loud ((with_reducible refine (impl_ProfilesOk.calls k _ _ l0 true _ (Kd.C_below HR0.out HB.out) HC0.out E1.out).mono ?_); rintro e w1 ⟨rfl, hb⟩; have n0_ := Aside0.mk (below_step HB.out hb); clear HB hb; have HB := n0_; clear n0_ E1))
                | (go_at_call 42; go_loud ((with_reducible refine (impl_copyProfiles.calls k _ _ l0 o _ (Kd.C_below HR0.out HB.out) HC0.out E2.out).mono ?_); rintro e w2 ⟨v0, rfl, ho0, hb⟩; have HO := Aside0.mk (Kd.S_lower ho0 (below_size HB.out)); have n1_ := Aside0.mk (below_step HB.out hb); clear HB hb ho0; have HB := n1_; clear n1_ E2; obtain ⟨Ao, co, eo⟩ := Kd.S_slice HO.out; subst eo))
                | (go_at_call 39; go_loud ((with_reducible refine (impl_profileOf.calls k _ _ o a1 i _ (Kd.S_reads' HO.out).2.2 (Kd.S_reads' HO.out).2.1 E3.out).mono ?_); rintro e w3 ⟨rfl, hb⟩; have n0_ := Aside0.mk (below_step HB.out hb); have n1_ := Aside0.mk (Kd.S_below HO.out hb); clear HB HO hb; have HB := n0_; have HO := n1_; clear n0_ n1_ E3))
                | go_in)
              have g1 := eq_true p
              have g2 := eq_true q
              obtain ⟨ad, A2, c2, e_, hx0, hx1, hx2, hl2, hi2⟩ := at_T52 (Kd.S_reads' HO.out).2.2 i p q
              subst e_
              have g3 : (((rd_T52 o i).f1) == 0) = false := by simpa using c3
              obtain ⟨ad2, e2_, hy0, hy1⟩ := at_T56 hi2 0 (by omega) (by omega)
              subst e2_
              have e0_ : ad2.add (Int.toNat 0 * 2) = ad2 := Addr.add_zero' _
              rw [e0_] at hy0 hy1
              have g4 := eq_true (show (0 : Int) < ((rd_T52 o i).f2.length : Int) by omega)
              rw [c5] at hy0
              go_quiet (fail)
              go_wp2
              go_ret2
              exact ⟨_, rfl, by (with_reducible repeat (first | apply Kd.S_alloc | apply Kd.S_drewN | apply Kd.S_drew)); exact HO.out, by repeat (first | (with_reducible first | exact HB.out | apply below_alloc | apply pw_below_drewN | apply below_drew1) | exact HB.out)⟩
            · rw [if_neg c5] at h
              obtain ⟨rfl, rfl⟩ : rbOut o i = r1 ∧ true = r2 := by simpa using h
              clear h
              go_enter Try.func17, Try.ntmps17
              go_wp2_with (first
                | (go_at_call 12; go_loud ((with_reducible refine (impl_ProfilesOk.calls k _ _ l0 true _ (Kd.C_below HR0.out HB.out) HC0.out E1.out).mono ?_); rintro e w1 ⟨rfl, hb⟩; have n0_ := Aside0.mk (below_step HB.out hb); clear HB hb; have HB := n0_; clear n0_ E1))
                | (go_at_call 42; go_loud ((with_reducible refine (impl_copyProfiles.calls k _ _ l0 o _ (Kd.C_below HR0.out HB.out) HC0.out E2.out).mono ?_); rintro e w2 ⟨v0, rfl, ho0, hb⟩; have HO := Aside0.mk (Kd.S_lower ho0 (below_size HB.out)); have n1_ := Aside0.mk (below_step HB.out hb); clear HB hb ho0; have HB := n1_; clear n1_ E2; obtain ⟨Ao, co, eo⟩ := Kd.S_slice HO.out; subst eo))
                | (go_at_call 39; go_loud ((with_reducible refine (impl_profileOf.calls k _ _ o a1 i _ (Kd.S_reads' HO.out).2.2 (Kd.S_reads' HO.out).2.1 E3.out).mono ?_); rintro e w3 ⟨rfl, hb⟩; have n0_ := Aside0.mk (below_step HB.out hb); have n1_ := Aside0.mk (Kd.S_below HO.out hb); clear HB HO hb; have HB := n0_; have HO := n1_; clear n0_ n1_ E3))
                | go_in)
              have g1 := eq_true p
              have g2 := eq_true q
              obtain ⟨go, co', eo, gb, gl, cl⟩ := Kd.S_form HO.out (by omega)
              injection eo with ea en ec
              subst ea
              subst ec
              have GB := Aside0.mk gb
              clear gb gl cl en
              obtain ⟨ad, A2, c2, e_, hx0, hx1, hx2, hl2, hi2⟩ := at_T52 (Kd.S_reads' HO.out).2.2 i p q
              injection e_ with e_
              subst e_
              simp only [add_plain] at hx0 hx1 hx2
              have g3 : (((rd_T52 o i).f1) == 0) = false := by simpa using c3
              obtain ⟨ad2, e2_, hy0, hy1⟩ := at_T56 hi2 0 (by omega) (by omega)
              subst e2_
              have e0_ : ad2.add (Int.toNat 0 * 2) = ad2 := Addr.add_zero' _
              rw [e0_] at hy0 hy1
              have g4 := eq_true (show (0 : Int) < ((rd_T52 o i).f2.length : Int) by omega)
              have g5 : (((rd_T56 (rd_T52 o i).f2 0).f0) == ((rd_T52 o i).f1)) = false := by simpa using c5
              go_quiet (fail)
              go_wp2
              have HX1 := Aside0.mk hx1
              have HX2 := Aside0.mk hx2
              have HI2 := Aside0.mk hi2
              have HC5 := Aside0.mk c5
              have HP := Aside0.mk p
              have HQ := Aside0.mk q
              clear hx0 hx1 hx2 hl2 hi2 hy0 hy1 c3 c4 c5 g3 g4 g5 e0_ p q
              go_loopw [51] (fun v51 wr => ∃ (x : Int) (j : Nat), v51 = .int .i64 x ∧ Aside0 (x = (j : Int) ∧ j ≤ (rd_T52 o i).f2.length ∧ ∀ q, q < j → (rd_T56 (rd_T52 o i).f2 (q : Int)).f0 ≠ (rd_T52 o i).f1) ∧ Aside0 (Below w3.heap.size w3 wr))
                (fun v51 _ => (rd_T52 o i).f2.length - (intOf v51).toNat)
              case atStart => exact ⟨0, 0, rfl, ⟨rfl, Nat.zero_le _, fun q hq => by omega⟩, ⟨pw_below_drewN (Below.refl _ _) _⟩⟩
              case round =>
                obtain ⟨x, j, rfl, hj, HW⟩ := hrel
                by_cases hlt : j < (rd_T52 o i).f2.length
                · have cb : decide (x < ((rd_T52 o i).f2.length : Int)) = true := decide_eq_true (by have := hj.out.1; omega)
                  have px : 0 ≤ x := by have := hj.out.1; omega
                  have qx : x < ((rd_T52 o i).f2.length : Int) := by have := hj.out.1; omega
                  have hi := Kd.C_below HI2.out HW.out
                  obtain ⟨ad3, e3_, hy0, hy1⟩ := at_T56 hi x px qx
                  injection e3_ with e3_
                  subst e3_
                  have hx1 := (HW.out.cell (World.block_lt_of_cell? w3 _ HX1.out)).trans HX1.out
                  have hx2 := (HW.out.cell (World.block_lt_of_cell? w3 _ HX2.out)).trans HX2.out
                  have gw : go < wr.heap.size := World.block_lt_of_cell? wr _ hx1
                  have gx1 : ∀ b_, (wr.alloc b_).cell? ⟨go, i.toNat * 3 + 1, none⟩ = some (.int .i64 ((rd_T52 o i).f1)) := fun b_ => by rw [World.cell?_alloc_old _ _ _ (Nat.ne_of_lt gw)]; exact hx1
                  have gx2 : ∀ b_, (wr.alloc b_).cell? ⟨go, i.toNat * 3 + 2, none⟩ = some (.slice (some ad2) ((rd_T52 o i).f2).length c2) := fun b_ => by rw [World.cell?_alloc_old _ _ _ (Nat.ne_of_lt gw)]; exact hx2
                  clear gw
                  have px' := Aside0.mk px
                  have qx' := Aside0.mk qx
                  replace px := eq_true px
                  replace qx := eq_true qx
                  by_cases c6 : (rd_T56 (rd_T52 o i).f2 x).f0 = (rd_T52 o i).f1
                  · have cc : ((rd_T56 (rd_T52 o i).f2 x).f0 == (rd_T52 o i).f1) = true := by simpa using c6
                    have HC6 := Aside0.mk c6
                    clear c6
                    go_wp2
                    go_quiet (fail)
                    generalize hW1 : World.drewN (World.alloc wr _) _ = W1
                    have HW1 := Aside0.mk (show Below w3.heap.size w3 W1 from by rw [← hW1]; exact pw_below_drewN (below_alloc HW.out _) _)
                    clear gx1 gx2 hy0 hy1 hx1 hx2 hi hW1 cc cb px qx
                    have HO1 := Aside0.mk (Kd.S_below HO.out HW1.out)
                    have HB1 := Aside0.mk (below_step HB.out HW1.out)
                    have hx2 := (HW1.out.cell (World.block_lt_of_cell? w3 _ HX2.out)).trans HX2.out
                    have hj1 : Aside0 (1 ≤ j) := ⟨by
                      rcases Nat.eq_zero_or_pos j with e | e
                      · exfalso
                        have h6 := HC6.out
                        rw [hj.out.1, e] at h6
                        exact HC5.out h6
                      · exact e⟩
                    obtain ⟨z, hz⟩ : ∃ z : Int, wrap64 (x - 1) = z := ⟨_, rfl⟩
                    have hzw : (IntKind.i64.wrap (x - 1)) = z := (i64_w _).trans hz
                    have hzj : Aside0 (z = ((j : Int) - 1)) := ⟨by have := hj.out.1; have := HN.out; have := hj1.out; rw [← hz]; unfold wrap64; omega⟩
                    have pz : 0 ≤ z := by have := hzj.out; have := hj1.out; omega
                    have qz : z < ((rd_T52 o i).f2.length : Int) := by have := hzj.out; omega
                    have hm : rbOut o i = o.set i.toNat (⟨(rd_T52 o i).f0, ((rd_T56 (rd_T52 o i).f2 z).f0), (rd_T52 o i).f2⟩ : S52) := by
                      unfold rbOut
                      rw [rb_hit hlt (by rw [← hj.out.1]; exact HC6.out) hj.out.2.2]
                      simp only [hzj.out]
                    have HM := Aside0.mk hm
                    clear hm hlt hz
                    obtain ⟨ad4, e4_, hy0, hy1⟩ := at_T56 (Kd.C_below HI2.out HW1.out) z pz qz
                    injection e4_ with e4_
                    subst e4_
                    replace pz := eq_true pz
                    replace qz := eq_true qz
                    have HX := Aside0.mk (show Kd.S k52 52 W1 w.heap.size (fun k_ => ((fun _ => True)) k_ ∧ ¬ ((fun _ => False)) k_) (.slice (some ⟨go, 0, none⟩) o.length co) o from Kd.S_mono HO1.out (fun k_ hk => ⟨trivial, fun e_ => e_⟩))
                    obtain ⟨oki, ce, hcl, hM, hcc, hfr, hoki, hH⟩ := Kd.S_elem HX.out z52 i HP.out HQ.out
                    obtain ⟨ve, rfl, ge⟩ := k52_openM hM
                    have HS := Kd.S_seg hH HP.out HQ.out (seg := [.int .i64 ((rd_T56 (rd_T52 o i).f2 z).f0)]) (j := 1) (show 2 ≤ 3 from by decide) (x' := (⟨(rd_T52 o i).f0, ((rd_T56 (rd_T52 o i).f2 z).f0), (rd_T52 o i).f2⟩ : S52)) (k52_mkM _ _ _ (⟨(rd_T52 o i).f0, ((rd_T56 (rd_T52 o i).f2 z).f0), (rd_T52 o i).f2⟩ : S52) (Kd.R_mono ge (fun _ h_ => Or.inl h_))) (fun _ hk => hk) (fun k_ hk_ => hk_.elim)
                    have hs1 : W1.cell? ⟨go, i.toNat * 3 + 1, none⟩ = some _ := hcc 1 _ rfl
                    have hf1 : W1.frozen? ⟨go, i.toNat * 3 + 1, none⟩ = false := hfr 1
                    clear hcl hM hcc hfr hoki hH
                    go_wp2_with (first | ((with_reducible refine gate_store (t := 2) (p := 77) rfl ?_); refine store_event (t := 2) (p := 77) (v := ?vo_w30) (w1 := (W1.setCell ⟨go, i.toNat * 3 + 1, none⟩ (.int .i64 ((rd_T56 (rd_T52 o i).f2 z).f0)))) ?hg ?ho ?hn ?hr ?_; (case ho => rfl); (case hg => rfl); (case hn => rfl); (case hr => first | (go_simp; done) | (go_simp; rfl)); intro w30 hw; have hp_ := Aside0.mk (show Kd.S k52 52 w30 w.heap.size (fun _ => True) (.slice (some ⟨go, 0, none⟩) o.length co) (rbOut o i) from (by rw [hw, HM.out]; exact HS.1)); have n4_ := Aside0.mk ((by rw [hw]; exact below_set HB1.out GB.out : Below w.heap.size w w30)); clear HS hw) | go_in)
                    go_ret2
                    exact ⟨_, rfl, hp_.out, n4_.out⟩
                  · have cc : ((rd_T56 (rd_T52 o i).f2 x).f0 == (rd_T52 o i).f1) = false := by simpa using c6
                    have HC6 := Aside0.mk c6
                    clear c6
                    go_wp2
                    go_quiet (fail)
                    go_wp2
                    go_roundw
                    case rel => exact ⟨_, j + 1, rfl, ⟨by have := hj.out.1; have := HN.out; unfold wrap64; omega, by omega, fun q hq => by
                      by_cases e : q = j
                      · subst e; rw [← hj.out.1]; exact HC6.out
                      · exact hj.out.2.2 q (by omega)⟩, ⟨by repeat (first | (with_reducible first | exact HW.out | apply below_alloc | apply pw_below_drewN | apply below_drew1) | exact HW.out)⟩⟩
                    case measure =>
                      have := hj.out.1
                      have := HN.out
                      have e : wrap64 (x + 1) = x + 1 := by unfold wrap64; omega
                      simp [intOf, e]
                      omega
                · have cb : decide (x < ((rd_T52 o i).f2.length : Int)) = false := decide_eq_false (by have := hj.out.1; omega)
                  have hm : rbOut o i = o := by
                    unfold rbOut
                    rw [rb_miss (fun q hq => hj.out.2.2 q (by omega))]
                  have HM := Aside0.mk hm
                  clear hm hlt
                  go_wp2
                  go_ret2
                  exact ⟨_, rfl, by rw [HM.out]; exact Kd.S_below HO.out HW.out, below_step HB.out HW.out⟩
          · rw [if_neg c4] at h
            exact absurd h (by simp)
      · rw [if_neg c2] at h
        exact absurd h (by simp)

/-! ### laws_markText: function 43 -/
def laws_markText.l0 : Nat → Int → ByteArray → Option (ByteArray)
  | 0, _, _ => none
  | k + 1, x0, x3 => if x0 > 0 then ((some (([(wrap64 (48 + (Int.tmod x0 10))) % 256] : List Int) : List Int)).bind fun y225 => (if (strOfNums y225).size + x3.size ≤ 9223372036854775807 then (laws_markText.l0 k (wrap64 (Int.tdiv x0 10)) ((strOfNums y225) ++ x3)) else (none))) else (if 1 + x3.size ≤ 9223372036854775807 then (some ((⟨#[109]⟩ : ByteArray) ++ x3)) else (none))
def laws_markText.f (k : Nat) (a0 : Int) : Option (ByteArray) := if a0 ≤ 0 then (some (⟨#[109, 48]⟩ : ByteArray)) else (laws_markText.l0 k a0 (⟨#[]⟩ : ByteArray))
theorem laws_markText.mono_l : ∀ k, (∀ y0 y1, LeO (laws_markText.l0 k y0 y1) (laws_markText.l0 (k + 1) y0 y1))
  | 0 => fun _ _ r h => by simp [laws_markText.l0] at h
  | k + 1 => by
    have ih0 := laws_markText.mono_l k
    · intro y0 y1
      unfold laws_markText.l0
      repeat' first
      | (with_reducible exact ih0 _ _)
      | (with_reducible exact LeO.refl _)
      | (with_reducible exact LeO.none _)
      | (with_reducible refine LeO.ite ?_ ?_)
      | (with_reducible refine LeO.bind ?_ (fun _ => ?_))
      | exact ih0 _ _
      | exact LeO.none _
      | refine LeO.ite ?_ ?_
      | refine LeO.bind ?_ (fun _ => ?_)
theorem laws_markText.mono : ∀ a0 k, LeO (laws_markText.f k a0) (laws_markText.f (k + 1) a0) := by
  intro a0 k
  have ih0 := laws_markText.mono_l k
  unfold laws_markText.f
  repeat' first
      | (with_reducible exact ih0 _ _)
      | (with_reducible exact LeO.refl _)
      | (with_reducible exact LeO.none _)
      | (with_reducible refine LeO.ite ?_ ?_)
      | (with_reducible refine LeO.bind ?_ (fun _ => ?_))
      | exact ih0 _ _
      | exact LeO.none _
      | refine LeO.ite ?_ ?_
      | refine LeO.bind ?_ (fun _ => ?_)
set_option maxHeartbeats 8000000 in
set_option maxRecDepth 100000 in
theorem laws_markText.calls (k : Nat) (a0 : Int) (r : ByteArray) (w : World) (h : laws_markText.f k a0 = some r) :
    Calls Try.prog 43 #[.int .i64 a0] w fun e w' => e = .returned (.string r) ∧ Below w.heap.size w w' := by
  have HB := Aside0.mk (Below.refl w.heap.size w)
  have H : (if a0 ≤ 0 then (some (⟨#[109, 48]⟩ : ByteArray)) else (laws_markText.l0 k a0 (⟨#[]⟩ : ByteArray))) = some r := h
  clear h
  by_cases c2 : a0 ≤ 0
  · rw [if_pos c2] at H
    have c2b0 : decide (a0 ≤ 0) = true := decide_eq_true c2
    clear c2
    obtain rfl := Option.some.inj H
    go_enter Try.func43, Try.ntmps43
    go_wp2
    go_ret
    exact ⟨by first | rfl | (simp [errW_none, errW_some] <;> rfl) | (simp [*, errW_none, errW_some] <;> rfl), by repeat (first | (with_reducible first | exact HB.out | apply below_alloc | apply pw_below_drewN | apply below_drew1) | exact HB.out)⟩
  · rw [if_neg c2] at H
    have c2b0 : decide (a0 ≤ 0) = false := decide_eq_false c2
    clear c2
    have H' := Aside0.mk H
    clear H
    go_enter Try.func43, Try.ntmps43
    go_wp2
    go_loopg [0, 3] k (fun kq v0 v3 w' => ∃ (x0_1 : Int) (x3_1 : ByteArray), v0 = .int .i64 x0_1 ∧ v3 = .string x3_1 ∧ Aside0 (laws_markText.l0 kq x0_1 x3_1 = some r) ∧ Aside0 (kq ≤ k) ∧ Aside0 (Below w.heap.size w w'))
    case atStart => exact ⟨(a0), ((⟨#[]⟩ : ByteArray)), (by first | rfl | (simp; done) | (simp [*]; done)), (by first | rfl | (simp; done) | (simp [*]; done)), H', ⟨Nat.le_refl _⟩, ⟨by repeat (first | (with_reducible first | exact HB.out | apply below_alloc | apply pw_below_drewN | apply below_drew1) | exact HB.out)⟩⟩
    case round =>
      clear H'
      try clear c2
      try clear c2b0
      try clear p2
      obtain ⟨x0_1, x3_1, rfl, rfl, HA, HK1, HB⟩ := hrel
      cases gk with
      | zero => exact absurd HA.out (by simp [laws_markText.l0])
      | succ k1 =>
        have H := HA.out
        clear HA
        simp only [laws_markText.l0] at H
        by_cases c3 : x0_1 > 0
        · rw [if_pos c3] at H
          have c3b0 : decide (0 < x0_1) = true := decide_eq_true c3
          clear c3
          obtain ⟨y225, hy225⟩ : ∃ y_ : List Int, y_ = (([(wrap64 (48 + (Int.tmod x0_1 10))) % 256] : List Int)) := ⟨_, rfl⟩
          replace H : (if (strOfNums y225).size + x3_1.size ≤ 9223372036854775807 then (laws_markText.l0 k1 (wrap64 (Int.tdiv x0_1 10)) ((strOfNums y225) ++ x3_1)) else (none)) = some r := by first | (rw [hy225]; with_reducible exact H) | (have H2_ := (Option.bind_some _ _).symm.trans H; rw [hy225]; with_reducible exact H2_) | (have H2_ := (Option.bind_some _ _).symm.trans H; with_reducible exact H2_) | with_reducible exact H | (rw [hy225]; exact H) | exact H
          have Ny225 := Aside0.mk hy225
          clear hy225
          by_cases c4 : (strOfNums y225).size + x3_1.size ≤ 9223372036854775807
          · rw [if_pos c4] at H
            have c4b0 := eq_true c4
            have c4b1 : decide ((strOfNums y225).size + x3_1.size ≤ 9223372036854775807) = true := decide_eq_true c4
            try have c4b2 : (9223372036854775807 < (strOfNums y225).size + x3_1.size) = False := eq_false (Nat.not_lt.2 c4)
            try (have c4b3 := Nat.not_lt.2 c4; simp only [ByteArray.size_append, ByteArray.size_mk', List.size_toArray, List.length_cons, List.length_nil, Nat.zero_add, Nat.reduceAdd] at c4b3; replace c4b3 := eq_false c4b3)
            have H' := Aside0.mk H
            clear H
            go_wp2_with (first | ((with_reducible refine gate_dst (N := 12) rfl ?_); refine Kd.R_lit (Kd.int .u8) _ 5 ?hg (N := 12) ?hd (xs := ([(wrap64 (48 + (Int.tmod x0_1 10))) % 256] : List Int)) (inner := [.int .u8 ((wrap64 (48 + (Int.tmod x0_1 10))) % 256)]) (ok := fun _ => True) (okp := fun _ => True) ?hr ?hp (fun _ hk => hk) trivial (Below.refl _ _) (Nat.le_refl _) (by simp) ?_; (case hd => rfl); (case hg => rfl); (case hr => first | (go_simp; done) | (go_simp; rfl)); (case hp => exact (Reps.one (show Kd.M (Kd.int .u8) _ _ _ ((wrap64 (48 + (Int.tmod x0_1 10))) % 256) [.int .u8 ((wrap64 (48 + (Int.tmod x0_1 10))) % 256)] from rfl) (Reps.none _ _))); intro v226 w5 ho6 hb hg_ hnew_; clear hg_ hnew_; (first | rw [← Ny225.out] at ho6 | (simp only [Int.reduceToNat] at ho6; rw [← Ny225.out] at ho6)); have n0_ := Aside0.mk (Kd.R_lower ho6 (below_size (by repeat (first | (with_reducible first | exact HB.out | apply below_alloc | apply pw_below_drewN | apply below_drew1) | exact HB.out)))); have n1_ := Aside0.mk (below_step (by repeat (first | (with_reducible first | exact HB.out | apply below_alloc | apply pw_below_drewN | apply below_drew1) | exact HB.out)) hb); clear HB; have HO227 := n0_; have HB := n1_; clear n0_ n1_; clear hb ho6; have hcv7 := own_string (P := Try.prog) Try.underlying38 Try.underlying5 Try.underlying9 (Kd.own_of_R HO227.out)))
            go_roundg k1
            case measure => have := HK1.out; omega
            case rel => exact ⟨(wrap64 (Int.tdiv x0_1 10)), ((strOfNums y225) ++ x3_1), (by first | rfl | (simp; done) | (simp [*]; done)), (by first | rfl | (simp; done) | (simp [*]; done)), H', ⟨by have := HK1.out; omega⟩, ⟨by repeat (first | (with_reducible first | exact HB.out | apply below_alloc | apply pw_below_drewN | apply below_drew1) | exact HB.out)⟩⟩
          · rw [if_neg c4] at H
            exact absurd H (by simp)
        · rw [if_neg c3] at H
          have c3b0 : decide (0 < x0_1) = false := decide_eq_false c3
          clear c3
          by_cases c8 : 1 + x3_1.size ≤ 9223372036854775807
          · rw [if_pos c8] at H
            have c8b0 := eq_true c8
            have c8b1 : decide (1 + x3_1.size ≤ 9223372036854775807) = true := decide_eq_true c8
            try have c8b2 : (9223372036854775807 < 1 + x3_1.size) = False := eq_false (Nat.not_lt.2 c8)
            try (have c8b3 := Nat.not_lt.2 c8; simp only [ByteArray.size_append, ByteArray.size_mk', List.size_toArray, List.length_cons, List.length_nil, Nat.zero_add, Nat.reduceAdd] at c8b3; replace c8b3 := eq_false c8b3)
            obtain rfl := Option.some.inj H
            go_wp2
            go_ret
            exact ⟨by first | rfl | (simp [errW_none, errW_some] <;> rfl) | (simp [*, errW_none, errW_some] <;> rfl), by repeat (first | (with_reducible first | exact HB.out | apply below_alloc | apply pw_below_drewN | apply below_drew1) | exact HB.out)⟩
          · rw [if_neg c8] at H
            exact absurd H (by simp)

/-! ### laws_markGenS: function 44 -/
def laws_markGenS.l0 : Nat → List (S56) → Int → Int → Option (Int × (List (S56)))
  | 0, _, _, _ => none
  | k + 1, x0, x1, x5 => if x5 < (x0.length : Int) then (if 0 ≤ x5 then ((some (x0.set (x5 : Int).toNat (⟨x1, (rd_T56 x0 x5).f1⟩ : S56) : List (S56))).bind fun y228 => ((laws_markText.f k (wrap64 (x1 + 1))).bind fun t229 => (laws_markGenS.l0 k (y228.set (x5 : Int).toNat (⟨(rd_T56 y228 x5).f0, t229⟩ : S56)) (wrap64 ((wrap64 (x1 + 1)) + 1)) (wrap64 (x5 + 1))))) else (none)) else (some (x1, x0))
def laws_markGenS.f (k : Nat) (l0 : List (S56)) (a1 : Int) : Option (Int × (List (S56))) := laws_markGenS.l0 k l0 a1 0
theorem laws_markGenS.mono_l : ∀ k, (∀ y0 y1 y2, LeO (laws_markGenS.l0 k y0 y1 y2) (laws_markGenS.l0 (k + 1) y0 y1 y2))
  | 0 => fun _ _ _ r h => by simp [laws_markGenS.l0] at h
  | k + 1 => by
    have ih0 := laws_markGenS.mono_l k
    · intro y0 y1 y2
      unfold laws_markGenS.l0
      repeat' first
      | (with_reducible exact ih0 _ _ _)
      | (with_reducible exact laws_markText.mono _ _)
      | (with_reducible exact LeO.refl _)
      | (with_reducible exact LeO.none _)
      | (with_reducible refine LeO.ite ?_ ?_)
      | (with_reducible refine LeO.bind ?_ (fun _ => ?_))
      | exact ih0 _ _ _
      | exact laws_markText.mono _ _
      | exact LeO.none _
      | refine LeO.ite ?_ ?_
      | refine LeO.bind ?_ (fun _ => ?_)
theorem laws_markGenS.mono : ∀ a0 a1 k, LeO (laws_markGenS.f k a0 a1) (laws_markGenS.f (k + 1) a0 a1) := by
  intro a0 a1 k
  have ih0 := laws_markGenS.mono_l k
  unfold laws_markGenS.f
  repeat' first
      | (with_reducible exact ih0 _ _ _)
      | (with_reducible exact laws_markText.mono _ _)
      | (with_reducible exact LeO.refl _)
      | (with_reducible exact LeO.none _)
      | (with_reducible refine LeO.ite ?_ ?_)
      | (with_reducible refine LeO.bind ?_ (fun _ => ?_))
      | exact ih0 _ _ _
      | exact laws_markText.mono _ _
      | exact LeO.none _
      | refine LeO.ite ?_ ?_
      | refine LeO.bind ?_ (fun _ => ?_)
set_option maxHeartbeats 8000000 in
set_option maxRecDepth 100000 in
theorem laws_markGenS.calls (k : Nat) (P0_ : Nat → Prop) (u9000_ : Value) (l0 : List (S56)) (a1 : Int) (r1 : Int) (r2 : List (S56)) (w0 w : World) (hB : Below w0.heap.size w0 w) (ho0 : Kd.R k56 56 w w0.heap.size P0_ u9000_ l0) (h : laws_markGenS.f k l0 a1 = some (r1, r2)) :
    Calls Try.prog 44 #[u9000_, .int .i64 a1] w fun e w' => e = .returned (.int .i64 r1) ∧ Kd.R k56 56 w' w0.heap.size (fun k_ => (P0_ k_ ∨ w.heap.size ≤ k_)) u9000_ r2 ∧ Below w0.heap.size w0 w' ∧ Kept w w' (fun k_ => P0_ k_) := by
  have HO0 := Aside0.mk (show Kd.R k56 56 w w0.heap.size (fun k_ => (P0_ k_ ∨ w.heap.size ≤ k_)) u9000_ l0 from Kd.R_mono ho0 (fun k_ hk => (.inl hk)))
  have HK := Aside0.mk (Kept.refl w (fun k_ => P0_ k_))
  have HW0 := Aside0.mk hB.size
  have HB := Aside0.mk hB
  clear hB
  have H : (laws_markGenS.l0 k l0 a1 0) = some (r1, r2) := h
  clear h
  have H' := Aside0.mk H
  clear H
  go_enter Try.func44, Try.ntmps44
  go_wp2
  go_loopg [1, 5] k (fun kq v1 v5 w' => ∃ (x0_1 : List (S56)) (x1_1 : Int) (x5_1 : Int), v1 = .int .i64 x1_1 ∧ v5 = .int .i64 x5_1 ∧ Aside0 (laws_markGenS.l0 kq x0_1 x1_1 x5_1 = some (r1, r2)) ∧ Aside0 (kq ≤ k) ∧ Aside0 (Kd.R k56 56 w' w0.heap.size (fun k_ => (P0_ k_ ∨ w.heap.size ≤ k_)) u9000_ x0_1) ∧ Aside0 (Kept w w' (fun k_ => P0_ k_)) ∧ Aside0 (Below w0.heap.size w0 w'))
  case atStart => exact ⟨(l0), (a1), (0), (by first | rfl | (simp; done) | (simp [*]; done)), (by first | rfl | (simp; done) | (simp [*]; done)), H', ⟨Nat.le_refl _⟩, ⟨by (with_reducible repeat (first | apply Kd.R_alloc | apply Kd.R_drewN | apply Kd.R_drew)); exact HO0.out⟩, ⟨by repeat (first | (with_reducible first | exact HK.out | apply Kept.alloc | apply Kept.drewN | apply Kept.drew) | exact HK.out)⟩, ⟨by repeat (first | (with_reducible first | exact HB.out | apply below_alloc | apply pw_below_drewN | apply below_drew1) | exact HB.out)⟩⟩
  case round =>
    clear H'
    try clear p2
    obtain ⟨x0_1, x1_1, x5_1, rfl, rfl, HA, HK1, HO_0, HK, HB⟩ := hrel
    cases gk with
    | zero => exact absurd HA.out (by simp [laws_markGenS.l0])
    | succ k1 =>
      have H := HA.out
      clear HA
      simp only [laws_markGenS.l0] at H
      by_cases c3 : x5_1 < (x0_1.length : Int)
      · rw [if_pos c3] at H
        have c3b0 : decide (x5_1 < (x0_1.length : Int)) = true := decide_eq_true c3
        clear c3
        by_cases c4 : 0 ≤ x5_1
        · rw [if_pos c4] at H
          have c4b0 : decide (0 ≤ x5_1) = true := decide_eq_true c4
          clear c4
          obtain ⟨y228, hy228⟩ : ∃ y_ : List (S56), y_ = (x0_1.set (x5_1 : Int).toNat (⟨x1_1, (rd_T56 x0_1 x5_1).f1⟩ : S56)) := ⟨_, rfl⟩
          replace H : ((laws_markText.f k1 (wrap64 (x1_1 + 1))).bind fun t229 => (laws_markGenS.l0 k1 (y228.set (x5_1 : Int).toNat (⟨(rd_T56 y228 x5_1).f0, t229⟩ : S56)) (wrap64 ((wrap64 (x1_1 + 1)) + 1)) (wrap64 (x5_1 + 1)))) = some (r1, r2) := by first | (rw [hy228]; with_reducible exact H) | (have H2_ := (Option.bind_some _ _).symm.trans H; rw [hy228]; with_reducible exact H2_) | (have H2_ := (Option.bind_some _ _).symm.trans H; with_reducible exact H2_) | with_reducible exact H | (rw [hy228]; exact H) | exact H
          have Ny228 := Aside0.mk hy228
          clear hy228
          replace H := Option.bind_eq_some_iff.mp H
          obtain ⟨t229, A60, H⟩ := H
          replace H : (laws_markGenS.l0 k1 (y228.set (x5_1 : Int).toNat (⟨(rd_T56 y228 x5_1).f0, t229⟩ : S56)) (wrap64 ((wrap64 (x1_1 + 1)) + 1)) (wrap64 (x5_1 + 1))) = some (r1, r2) := H
          have A6 := Aside0.mk A60
          clear A60
          obtain ⟨y230, hy230⟩ : ∃ y_ : List (S56), y_ = (y228.set (x5_1 : Int).toNat (⟨(rd_T56 y228 x5_1).f0, t229⟩ : S56)) := ⟨_, rfl⟩
          replace H : (laws_markGenS.l0 k1 y230 (wrap64 ((wrap64 (x1_1 + 1)) + 1)) (wrap64 (x5_1 + 1))) = some (r1, r2) := by first | (rw [hy230]; with_reducible exact H) | (have H2_ := (Option.bind_some _ _).symm.trans H; rw [hy230]; with_reducible exact H2_) | (have H2_ := (Option.bind_some _ _).symm.trans H; with_reducible exact H2_) | with_reducible exact H | (rw [hy230]; exact H) | exact H
          have Ny230 := Aside0.mk hy230
          clear hy230
          have H' := Aside0.mk H
          clear H
          obtain ⟨Ao8, co8, eo8⟩ := Kd.R_slice HO_0.out
          subst eo8
          have p5 : 0 ≤ (x5_1 : Int) := of_decide_eq_true (by first | (with_reducible assumption) | assumption)
          have q5 : (x5_1 : Int) < ((x0_1.length : Int) : Int) := of_decide_eq_true (by first | (with_reducible assumption) | assumption)
          obtain ⟨go5, co5, eo5, gb5, gl5, cl5, HG5⟩ := Kd.R_form HO_0.out (by omega)
          (first | cases eo5 | (injection eo5 with ea_ en_ ec_; (first | subst ea_ | (injection ea_ with ea_; subst ea_)); subst ec_; clear en_))
          have GB5 := Aside0.mk gb5
          have GG5 := Aside0.mk HG5
          clear gb5 gl5 HG5
          have HMgo5 := Aside0.mk (show (P0_ go5 ∨ w.heap.size ≤ go5) from (HO_0.out.1 _ rfl))
          obtain ⟨ce5, hcl5, hM5, hcc5, hfr5⟩ := Kd.R_elem HO_0.out z56 (x5_1 : Int) p5 q5
          obtain rfl := k56_openM hM5
          have hx5_0 : wr.cell? ⟨go5, (x5_1 : Int).toNat * 2, none⟩ = some (.int .i64 ((rd_T56 x0_1 x5_1).f0)) := hcc5 0 _ rfl
          have hx5_1 : wr.cell? ⟨go5, (x5_1 : Int).toNat * 2 + 1, none⟩ = some (.string ((rd_T56 x0_1 x5_1).f1)) := hcc5 1 _ rfl
          have hf5_0 : wr.frozen? ⟨go5, (x5_1 : Int).toNat * 2, none⟩ = false := hfr5 0
          have hf5_1 : wr.frozen? ⟨go5, (x5_1 : Int).toNat * 2 + 1, none⟩ = false := hfr5 1
          clear hcl5 hcc5 hfr5 hM5
          replace p5 := eq_true p5
          replace q5 := eq_true q5
          have HX9 := Aside0.mk (show Kd.R k56 56 wr w0.heap.size (fun k_ => (P0_ k_ ∨ w.heap.size ≤ k_)) (.slice (some ⟨go5, 0, none⟩) x0_1.length co8) x0_1 from (by (with_reducible repeat (first | apply Kd.R_alloc | apply Kd.R_drewN | apply Kd.R_drew)); exact HO_0.out))
          obtain ⟨ce9, hcl9, hM9, hcc9, hfr9⟩ := Kd.R_elem HX9.out z56 (x5_1 : Int) (of_decide_eq_true (by first | (with_reducible assumption) | assumption)) (by have h_ : (x5_1 : Int) < ((x0_1.length : Int) : Int) := of_decide_eq_true (by first | (with_reducible assumption) | assumption); first | exact h_ | (have e_ := (Kd.R_reads' HO_0.out).1; omega) | simpa using h_)
          obtain rfl := k56_openM hM9
          have HP9 := Kd.R_seg HX9.out (x5_1 : Int) (of_decide_eq_true (by first | (with_reducible assumption) | assumption)) (by have h_ : (x5_1 : Int) < ((x0_1.length : Int) : Int) := of_decide_eq_true (by first | (with_reducible assumption) | assumption); first | exact h_ | (have e_ := (Kd.R_reads' HO_0.out).1; omega) | simpa using h_) (seg := [.int .i64 x1_1]) (j := 0) hcl9 hcc9 (show 1 ≤ 2 from by decide) (x' := (⟨x1_1, (rd_T56 x0_1 x5_1).f1⟩ : S56)) (k56_mkM _ _ _ (⟨x1_1, (rd_T56 x0_1 x5_1).f1⟩ : S56) ) (fun _ hk => hk)
          have hx9_0 := hcc9 0 _ rfl
          (try simp only [show (k56).sz = 2 from rfl, Nat.mul_one, Nat.add_zero] at hx9_0)
          have hf9_0 := hfr9 0
          (try simp only [show (k56).sz = 2 from rfl, Nat.mul_one, Nat.add_zero] at hf9_0)
          clear hcl9 hcc9 hfr9 hM9
          go_wp2_with (first | ((with_reducible refine gate_store (t := 2) (p := 16) rfl ?_); refine store_event (t := 2) (p := 16) (v := ?vo_w10) (w1 := (wr.setCell ⟨go5, (x5_1 : Int).toNat * 2, none⟩ (.int .i64 x1_1))) ?hg ?ho ?hn ?hr ?_; (case ho => rfl); (case hg => rfl); (case hn => rfl); (case hr => first | (go_simp; done) | (go_simp; rfl)); intro w10 hw; have hg : wr.grownBy w10 (some go5) := (by rw [hw]; exact HP9.2); have hp_ : Kd.R k56 56 w10 w0.heap.size (fun k_ => (P0_ k_ ∨ w.heap.size ≤ k_)) (.slice (some ⟨go5, 0, none⟩) x0_1.length co8) y228 := (by rw [hw, Ny228.out]; exact HP9.1); clear HP9; have n0_ := Aside0.mk (hp_); have n1_ := Aside0.mk ((by rw [hw]; exact below_set (HB.out) GB5.out : Below w0.heap.size w0 w10)); have n2_ := Aside0.mk (Kept.of_grown (S := (fun k_ => P0_ k_)) hg (by repeat (first | (with_reducible first | exact HK.out | apply Kept.alloc | apply Kept.drewN | apply Kept.drew) | exact HK.out)) (fun k_ e_ => (HO_0.out.1 k_ e_))); clear HO_0; clear HB; clear HK; have HO_0 := n0_; have HB := n1_; have HK := n2_; clear n0_ n1_ n2_; clear hg hw hp_) | ((with_reducible refine gate_callee (f := 43) rfl ?_); refine goesL_ (some 22) rfl rfl Try.func43 (by kernel_rfl) rfl #[.int .i64 (wrap64 (x1_1 + 1))] rfl (by (try simp only [List.map_toArray, List.map_cons, List.map_nil]); first | done | rfl | (simp only [List.length_drop, List.length_take]; rfl)) ?_; (with_reducible refine (laws_markText.calls k1 (wrap64 (x1_1 + 1)) t229 _ A6.out).mono ?_); rintro e w11 ⟨rfl, hb⟩; refine ⟨_, rfl, ?_⟩; have n0_ := Aside0.mk (Kd.R_below (by (with_reducible repeat (first | apply Kd.R_alloc | apply Kd.R_drewN | apply Kd.R_drew)); exact HO_0.out) hb); have n1_ := Aside0.mk (Kept.below (S := (fun k_ => P0_ k_)) (by repeat (first | (with_reducible first | exact HK.out | apply Kept.alloc | apply Kept.drewN | apply Kept.drew) | exact HK.out)) hb); have n2_ := Aside0.mk (below_step (by repeat (first | (with_reducible first | exact HB.out | apply below_alloc | apply pw_below_drewN | apply below_drew1) | exact HB.out)) hb); clear HO_0; clear HK; clear HB; have HO_0 := n0_; have HK := n1_; have HB := n2_; clear n0_ n1_ n2_; (try clear hb); (try clear hb2); (try clear hk); (try clear hi); have p7 : 0 ≤ (x5_1 : Int) := of_decide_eq_true (by first | (with_reducible assumption) | assumption); have q7 : (x5_1 : Int) < ((x0_1.length : Int) : Int) := of_decide_eq_true (by first | (with_reducible assumption) | assumption); obtain ⟨ce7, hcl7, hM7, hcc7, hfr7⟩ := Kd.R_elem HO_0.out z56 (x5_1 : Int) p7 q7; obtain rfl := k56_openM hM7; have hx7_0 : w11.cell? ⟨go5, (x5_1 : Int).toNat * 2, none⟩ = some (.int .i64 ((rd_T56 y228 x5_1).f0)) := hcc7 0 _ rfl; have hx7_1 : w11.cell? ⟨go5, (x5_1 : Int).toNat * 2 + 1, none⟩ = some (.string ((rd_T56 y228 x5_1).f1)) := hcc7 1 _ rfl; have hf7_0 : w11.frozen? ⟨go5, (x5_1 : Int).toNat * 2, none⟩ = false := hfr7 0; have hf7_1 : w11.frozen? ⟨go5, (x5_1 : Int).toNat * 2 + 1, none⟩ = false := hfr7 1; clear hcl7 hcc7 hfr7 hM7; replace p7 := eq_true p7; replace q7 := eq_true q7; have HX12 := Aside0.mk (show Kd.R k56 56 w11 w0.heap.size (fun k_ => (P0_ k_ ∨ w.heap.size ≤ k_)) (.slice (some ⟨go5, 0, none⟩) x0_1.length co8) y228 from (by (with_reducible repeat (first | apply Kd.R_alloc | apply Kd.R_drewN | apply Kd.R_drew)); exact HO_0.out)); obtain ⟨ce12, hcl12, hM12, hcc12, hfr12⟩ := Kd.R_elem HX12.out z56 (x5_1 : Int) (of_decide_eq_true (by first | (with_reducible assumption) | assumption)) (by have h_ : (x5_1 : Int) < ((x0_1.length : Int) : Int) := of_decide_eq_true (by first | (with_reducible assumption) | assumption); first | exact h_ | (have e_ := (Kd.R_reads' HO_0.out).1; omega) | simpa using h_); obtain rfl := k56_openM hM12; have HP12 := Kd.R_seg HX12.out (x5_1 : Int) (of_decide_eq_true (by first | (with_reducible assumption) | assumption)) (by have h_ : (x5_1 : Int) < ((x0_1.length : Int) : Int) := of_decide_eq_true (by first | (with_reducible assumption) | assumption); first | exact h_ | (have e_ := (Kd.R_reads' HO_0.out).1; omega) | simpa using h_) (seg := [.string t229]) (j := 1) hcl12 hcc12 (show 2 ≤ 2 from by decide) (x' := (⟨(rd_T56 y228 x5_1).f0, t229⟩ : S56)) (k56_mkM _ _ _ (⟨(rd_T56 y228 x5_1).f0, t229⟩ : S56) ) (fun _ hk => hk); have hx12_1 := hcc12 1 _ rfl; (try simp only [show (k56).sz = 2 from rfl, Nat.mul_one, Nat.add_zero] at hx12_1); have hf12_1 := hfr12 1; (try simp only [show (k56).sz = 2 from rfl, Nat.mul_one, Nat.add_zero] at hf12_1); clear hcl12 hcc12 hfr12 hM12) | ((with_reducible refine gate_store (t := 9) (p := 24) rfl ?_); refine store_event (t := 9) (p := 24) (v := ?vo_w13) (w1 := (w11.setCell ⟨go5, (x5_1 : Int).toNat * 2 + 1, none⟩ (.string t229))) ?hg ?ho ?hn ?hr ?_; (case ho => rfl); (case hg => rfl); (case hn => rfl); (case hr => first | (go_simp; done) | (go_simp; rfl)); intro w13 hw; have hg : w11.grownBy w13 (some go5) := (by rw [hw]; exact HP12.2); have hp_ : Kd.R k56 56 w13 w0.heap.size (fun k_ => (P0_ k_ ∨ w.heap.size ≤ k_)) (.slice (some ⟨go5, 0, none⟩) x0_1.length co8) y230 := (by rw [hw, Ny230.out]; exact HP12.1); clear HP12; have n0_ := Aside0.mk (hp_); have n1_ := Aside0.mk ((by rw [hw]; exact below_set (HB.out) GB5.out : Below w0.heap.size w0 w13)); have n2_ := Aside0.mk (Kept.of_grown (S := (fun k_ => P0_ k_)) hg (by repeat (first | (with_reducible first | exact HK.out | apply Kept.alloc | apply Kept.drewN | apply Kept.drew) | exact HK.out)) (fun k_ e_ => (HO_0.out.1 k_ e_))); clear HO_0; clear HB; clear HK; have HO_0 := n0_; have HB := n1_; have HK := n2_; clear n0_ n1_ n2_; clear hg hw hp_))
          go_roundg k1
          case measure => have := HK1.out; omega
          case rel => exact ⟨(y230), (wrap64 ((wrap64 (x1_1 + 1)) + 1)), (wrap64 (x5_1 + 1)), (by first | rfl | (simp; done) | (simp [*]; done)), (by first | rfl | (simp; done) | (simp [*]; done)), H', ⟨by have := HK1.out; omega⟩, ⟨by (with_reducible repeat (first | apply Kd.R_alloc | apply Kd.R_drewN | apply Kd.R_drew)); exact HO_0.out⟩, ⟨by repeat (first | (with_reducible first | exact HK.out | apply Kept.alloc | apply Kept.drewN | apply Kept.drew) | exact HK.out)⟩, ⟨by repeat (first | (with_reducible first | exact HB.out | apply below_alloc | apply pw_below_drewN | apply below_drew1) | exact HB.out)⟩⟩
        · rw [if_neg c4] at H
          exact absurd H (by simp)
      · rw [if_neg c3] at H
        have c3b0 : decide (x5_1 < (x0_1.length : Int)) = false := decide_eq_false c3
        clear c3
        simp only [Option.some.injEq, Prod.mk.injEq] at H
        obtain ⟨rfl, rfl⟩ := H
        obtain ⟨Ao14, co14, eo14⟩ := Kd.R_slice HO_0.out
        subst eo14
        go_wp2
        go_ret
        exact ⟨by first | rfl | (simp [errW_none, errW_some] <;> rfl) | (simp [*, errW_none, errW_some] <;> rfl), by (with_reducible repeat (first | apply Kd.R_alloc | apply Kd.R_drewN | apply Kd.R_drew)); exact HO_0.out, by repeat (first | (with_reducible first | exact HB.out | apply below_alloc | apply pw_below_drewN | apply below_drew1) | exact HB.out), by repeat (first | (with_reducible first | exact HK.out | apply Kept.alloc | apply Kept.drewN | apply Kept.drew) | exact HK.out)⟩

/-! ### laws_markProfileS: function 18 -/
def laws_markProfileS.l0 : Nat → List S52 → Int → Int → Option (Int × List S52)
  | 0, _, _, _ => none
  | k + 1, x0, x1, x5 => if x5 < (x0.length : Int) then (if 0 ≤ x5 then ((laws_markText.f k x1).bind fun t0 => (laws_markGenS.f k (rd_T52 x0 x5).f2 (wrap64 ((wrap64 (x1 + 1)) + 1))).bind fun b => laws_markProfileS.l0 k (x0.set x5.toNat (⟨t0, (wrap64 (x1 + 1)), b.2⟩ : S52)) b.1 (wrap64 (x5 + 1))) else none) else some (x1, x0)
def laws_markProfileS.f (k : Nat) (l0 : List S52) (a1 : Int) : Option (Int × List S52) := laws_markProfileS.l0 k l0 a1 0
set_option maxHeartbeats 8000000 in
set_option maxRecDepth 100000 in
theorem laws_markProfileS.calls (k : Nat) (P0_ : Nat → Prop) (u9000_ : Value) (l0 : List S52) (a1 : Int) (r1 : Int) (r2 : List S52) (w0 w : World) (hB : Below w0.heap.size w0 w) (ho0 : Kd.S k52 52 w w0.heap.size P0_ u9000_ l0) (h : laws_markProfileS.f k l0 a1 = some (r1, r2)) :
    Calls Try.prog 18 #[u9000_, .int .i64 a1] w fun e w' => e = .returned (.int .i64 r1) ∧ Kd.S k52 52 w' w0.heap.size (fun k_ => (P0_ k_ ∨ w.heap.size ≤ k_)) u9000_ r2 ∧ Below w0.heap.size w0 w' ∧ Kept w w' (fun k_ => P0_ k_) := by
  have HO0 := Aside0.mk (show Kd.S k52 52 w w0.heap.size (fun k_ => (P0_ k_ ∨ w.heap.size ≤ k_)) u9000_ l0 from Kd.S_mono ho0 (fun k_ hk => (.inl hk)))
  have HK := Aside0.mk (Kept.refl w (fun k_ => P0_ k_))
  have HB := Aside0.mk hB
  clear hB
  have H' := Aside0.mk (show laws_markProfileS.l0 k l0 a1 0 = some (r1, r2) from h)
  clear h
  go_enter Try.func18, Try.ntmps18
  go_wp2
  go_loopg [1, 5] k (fun kq v1 v5 w' => ∃ (x0_1 : List S52) (x1_1 : Int) (x5_1 : Int), v1 = .int .i64 x1_1 ∧ v5 = .int .i64 x5_1 ∧ Aside0 (laws_markProfileS.l0 kq x0_1 x1_1 x5_1 = some (r1, r2)) ∧ Aside0 (kq ≤ k) ∧ Aside0 (Kd.S k52 52 w' w0.heap.size (fun k_ => (P0_ k_ ∨ w.heap.size ≤ k_)) u9000_ x0_1) ∧ Aside0 (Kept w w' (fun k_ => P0_ k_)) ∧ Aside0 (Below w0.heap.size w0 w'))
  case atStart => exact ⟨l0, a1, 0, rfl, rfl, H', ⟨Nat.le_refl _⟩, ⟨by (with_reducible repeat (first | apply Kd.S_alloc | apply Kd.S_drewN | apply Kd.S_drew)); exact HO0.out⟩, ⟨by repeat (first | (with_reducible first | exact HK.out | apply Kept.alloc | apply Kept.drewN | apply Kept.drew) | exact HK.out)⟩, ⟨by repeat (first | (with_reducible first | exact HB.out | apply below_alloc | apply pw_below_drewN | apply below_drew1) | exact HB.out)⟩⟩
  case round =>
    clear H' ho0 HO0 HB HK
    obtain ⟨x0_1, x1_1, x5_1, rfl, rfl, HA, HK1, HO_0, HK, HB⟩ := hrel
    cases gk with
    | zero => exact absurd HA.out (by simp [laws_markProfileS.l0])
    | succ k1 =>
      have H := HA.out
      clear HA
      simp only [laws_markProfileS.l0] at H
      by_cases c3 : x5_1 < (x0_1.length : Int)
      · rw [if_pos c3] at H
        have c3b0 : decide (x5_1 < (x0_1.length : Int)) = true := decide_eq_true c3
        by_cases c4 : 0 ≤ x5_1
        · rw [if_pos c4] at H
          have c4b0 : decide (0 ≤ x5_1) = true := decide_eq_true c4
          replace H := Option.bind_eq_some_iff.mp H
          obtain ⟨t0, E0, H⟩ := H
          have T0 := Aside0.mk E0
          clear E0
          replace H := Option.bind_eq_some_iff.mp H
          obtain ⟨⟨m_, g_⟩, E0, H⟩ := H
          have T2 := Aside0.mk E0
          clear E0
          dsimp only at H
          have H' := Aside0.mk H
          clear H
          obtain ⟨go5, co5, eo5, gb5, gl5, cl5, HG5⟩ := Kd.S_form HO_0.out (by omega)
          subst eo5
          have GB5 := Aside0.mk gb5
          clear gb5 gl5 HG5
          have HMgo5 := Aside0.mk (show (P0_ go5 ∨ w.heap.size ≤ go5) from ((Kd.S_R HO_0.out).1 _ rfl))
          obtain ⟨oki, ce, hcl, hM, hcc, hfr, hoki, hH⟩ := Kd.S_elem HO_0.out z52 (x5_1 : Int) c4 c3
          clear hcl hcc hfr
          replace hM : k52.M wr w0.heap.size oki (rd_T52 x0_1 x5_1) ce := hM
          obtain ⟨v2, rfl, hR⟩ := k52_openM hM
          obtain ⟨A2, c2, rfl⟩ := Kd.R_slice hR
          clear hM
          have p5 := Aside0.mk c4
          have q5 := Aside0.mk c3
          clear c3 c4 HO_0
          replace c4b1 := eq_true p5.out
          replace c3b1 := eq_true q5.out
          have HL := Aside0.mk hoki
          clear hoki
          have HH := Aside0.mk hH
          have HR := Aside0.mk hR
          clear hH hR
          obtain ⟨_, hcc_, hfr_⟩ := Kd.H_cells HH.out p5.out q5.out
          have hx_0 : wr.cell? ⟨go5, (x5_1 : Int).toNat * 3, none⟩ = some _ := hcc_ 0 _ rfl
          have hf_0 : wr.frozen? ⟨go5, (x5_1 : Int).toNat * 3, none⟩ = false := hfr_ 0
          have hx_1 : wr.cell? ⟨go5, (x5_1 : Int).toNat * 3 + 1, none⟩ = some _ := hcc_ 1 _ rfl
          have hf_1 : wr.frozen? ⟨go5, (x5_1 : Int).toNat * 3 + 1, none⟩ = false := hfr_ 1
          have hx_2 : wr.cell? ⟨go5, (x5_1 : Int).toNat * 3 + 2, none⟩ = some _ := hcc_ 2 _ rfl
          have hf_2 : wr.frozen? ⟨go5, (x5_1 : Int).toNat * 3 + 2, none⟩ = false := hfr_ 2
          clear hcc_ hfr_
          go_wp2_with (first | (go_at_call 43; (with_reducible refine (laws_markText.calls (w := _) (h := T0.out)).mono ?_); rintro e wa1 ⟨rfl, hb⟩; have n0_ := Aside0.mk (Kd.H_below HH.out hb); have n1_ := Aside0.mk (Kd.R_below HR.out hb); have n2_ := Aside0.mk (Kept.below (S := (fun k_ => P0_ k_)) (by repeat (first | (with_reducible first | exact HK.out | apply Kept.alloc | apply Kept.drewN | apply Kept.drew) | exact HK.out)) hb); have n3_ := Aside0.mk (below_step (by repeat (first | (with_reducible first | exact HB.out | apply below_alloc | apply pw_below_drewN | apply below_drew1) | exact HB.out)) hb); clear HH HR HK HB hb; have HH := n0_; have HR := n1_; have HK := n2_; have HB := n3_; clear n0_ n1_ n2_ n3_; (try clear hx_0 hf_0 hx_1 hf_1 hx_2 hf_2); obtain ⟨_, hcc_, hfr_⟩ := Kd.H_cells HH.out p5.out q5.out; have hx_0 : wa1.cell? ⟨go5, (x5_1 : Int).toNat * 3, none⟩ = some _ := hcc_ 0 _ rfl; have hf_0 : wa1.frozen? ⟨go5, (x5_1 : Int).toNat * 3, none⟩ = false := hfr_ 0; have hx_1 : wa1.cell? ⟨go5, (x5_1 : Int).toNat * 3 + 1, none⟩ = some _ := hcc_ 1 _ rfl; have hf_1 : wa1.frozen? ⟨go5, (x5_1 : Int).toNat * 3 + 1, none⟩ = false := hfr_ 1; have hx_2 : wa1.cell? ⟨go5, (x5_1 : Int).toNat * 3 + 2, none⟩ = some _ := hcc_ 2 _ rfl; have hf_2 : wa1.frozen? ⟨go5, (x5_1 : Int).toNat * 3 + 2, none⟩ = false := hfr_ 2; clear hcc_ hfr_) | ((with_reducible refine gate_store (t := 9) (p := 17) rfl ?_); refine store_event (t := 9) (p := 17) (v := ?vo_wa2) (w1 := (wa1.setCell ⟨go5, (x5_1 : Int).toNat * 3, none⟩ (.string t0))) ?hg ?ho ?hn ?hr ?_; (case ho => rfl); (case hg => rfl); (case hn => rfl); (case hr => first | (go_simp; done) | (go_simp; rfl)); intro wa2 hw; have HP := Kd.H_put HH.out p5.out q5.out 0 (.string t0) (by decide) rfl; have hg : wa1.grownBy wa2 (some go5) := (by rw [hw]; exact HP.2); have n0_ := Aside0.mk (show Kd.H k52 52 wa2 w0.heap.size (fun k_ => (P0_ k_ ∨ w.heap.size ≤ k_)) _ x0_1 (x5_1 : Int) oki _ from (by rw [hw]; exact HP.1)); have n1_ := Aside0.mk (Kd.R_grown HR.out hg (Kd.lent_ne HL.out)); have n2_ := Aside0.mk (Kept.of_grown (S := (fun k_ => P0_ k_)) hg (by repeat (first | (with_reducible first | exact HK.out | apply Kept.alloc | apply Kept.drewN | apply Kept.drew) | exact HK.out)) (fun k_ e_ => by injection e_ with e_; subst e_; exact HMgo5.out)); have n3_ := Aside0.mk ((by rw [hw]; exact below_set (by repeat (first | (with_reducible first | exact HB.out | apply below_alloc | apply pw_below_drewN | apply below_drew1) | exact HB.out)) GB5.out : Below w0.heap.size w0 wa2)); clear HH HR HK HB HP hg hw; have HH := n0_; have HR := n1_; have HK := n2_; have HB := n3_; clear n0_ n1_ n2_ n3_; (try clear hx_0 hf_0 hx_1 hf_1 hx_2 hf_2); obtain ⟨_, hcc_, hfr_⟩ := Kd.H_cells HH.out p5.out q5.out; have hx_0 : wa2.cell? ⟨go5, (x5_1 : Int).toNat * 3, none⟩ = some _ := hcc_ 0 _ rfl; have hf_0 : wa2.frozen? ⟨go5, (x5_1 : Int).toNat * 3, none⟩ = false := hfr_ 0; have hx_1 : wa2.cell? ⟨go5, (x5_1 : Int).toNat * 3 + 1, none⟩ = some _ := hcc_ 1 _ rfl; have hf_1 : wa2.frozen? ⟨go5, (x5_1 : Int).toNat * 3 + 1, none⟩ = false := hfr_ 1; have hx_2 : wa2.cell? ⟨go5, (x5_1 : Int).toNat * 3 + 2, none⟩ = some _ := hcc_ 2 _ rfl; have hf_2 : wa2.frozen? ⟨go5, (x5_1 : Int).toNat * 3 + 2, none⟩ = false := hfr_ 2; clear hcc_ hfr_) | ((with_reducible refine gate_store (t := 2) (p := 24) rfl ?_); refine store_event (t := 2) (p := 24) (v := ?vo_wa3) (w1 := (wa2.setCell ⟨go5, (x5_1 : Int).toNat * 3 + 1, none⟩ (.int .i64 ((wrap64 (x1_1 + 1)))))) ?hg ?ho ?hn ?hr ?_; (case ho => rfl); (case hg => rfl); (case hn => rfl); (case hr => first | (go_simp; done) | (go_simp; rfl)); intro wa3 hw; have HP := Kd.H_put HH.out p5.out q5.out 1 (.int .i64 ((wrap64 (x1_1 + 1)))) (by decide) rfl; have hg : wa2.grownBy wa3 (some go5) := (by rw [hw]; exact HP.2); have n0_ := Aside0.mk (show Kd.H k52 52 wa3 w0.heap.size (fun k_ => (P0_ k_ ∨ w.heap.size ≤ k_)) _ x0_1 (x5_1 : Int) oki _ from (by rw [hw]; exact HP.1)); have n1_ := Aside0.mk (Kd.R_grown HR.out hg (Kd.lent_ne HL.out)); have n2_ := Aside0.mk (Kept.of_grown (S := (fun k_ => P0_ k_)) hg (by repeat (first | (with_reducible first | exact HK.out | apply Kept.alloc | apply Kept.drewN | apply Kept.drew) | exact HK.out)) (fun k_ e_ => by injection e_ with e_; subst e_; exact HMgo5.out)); have n3_ := Aside0.mk ((by rw [hw]; exact below_set (by repeat (first | (with_reducible first | exact HB.out | apply below_alloc | apply pw_below_drewN | apply below_drew1) | exact HB.out)) GB5.out : Below w0.heap.size w0 wa3)); clear HH HR HK HB HP hg hw; have HH := n0_; have HR := n1_; have HK := n2_; have HB := n3_; clear n0_ n1_ n2_ n3_; (try clear hx_0 hf_0 hx_1 hf_1 hx_2 hf_2); obtain ⟨_, hcc_, hfr_⟩ := Kd.H_cells HH.out p5.out q5.out; have hx_0 : wa3.cell? ⟨go5, (x5_1 : Int).toNat * 3, none⟩ = some _ := hcc_ 0 _ rfl; have hf_0 : wa3.frozen? ⟨go5, (x5_1 : Int).toNat * 3, none⟩ = false := hfr_ 0; have hx_1 : wa3.cell? ⟨go5, (x5_1 : Int).toNat * 3 + 1, none⟩ = some _ := hcc_ 1 _ rfl; have hf_1 : wa3.frozen? ⟨go5, (x5_1 : Int).toNat * 3 + 1, none⟩ = false := hfr_ 1; have hx_2 : wa3.cell? ⟨go5, (x5_1 : Int).toNat * 3 + 2, none⟩ = some _ := hcc_ 2 _ rfl; have hf_2 : wa3.frozen? ⟨go5, (x5_1 : Int).toNat * 3 + 2, none⟩ = false := hfr_ 2; clear hcc_ hfr_) | (go_at_call 44; (with_reducible refine (laws_markGenS.calls (P0_ := oki) (w0 := w0) (hB := by repeat (first | (with_reducible first | exact HB.out | apply below_alloc | apply pw_below_drewN | apply below_drew1) | exact HB.out)) (ho0 := HR.out) (h := T2.out)).mono ?_); rintro e wa4 ⟨rfl, ho, hb0, hk⟩; have ho := Kd.R_mono (Kd.R_tight rfl ho) (ok' := oki) (fun k_ e_ => HR.out.1 k_ e_.symm); have hb1 := Kd.H_back (Kd.H_kept HH.out hk (fun _ _ hn => hn)) (k52_mkM _ _ _ (⟨t0, (wrap64 (x1_1 + 1)), g_⟩ : S52) ho) (fun _ h_ => h_); have n2_ := Aside0.mk (Kept.then_ (S := (fun k_ => P0_ k_)) (by repeat (first | (with_reducible first | exact HK.out | apply Kept.alloc | apply Kept.drewN | apply Kept.drew) | exact HK.out)) hk (fun k_ h_ => (HL.out k_ h_).1)); clear HH HR HK HB hk ho; have HO_0 := Aside0.mk hb1; have HK := n2_; have HB := Aside0.mk hb0; clear n2_ hb0 hb1; (try clear hx_0 hf_0 hx_1 hf_1 hx_2 hf_2)))
          go_roundg k1
          case measure => have := HK1.out; omega
          case rel => exact ⟨_, m_, _, rfl, rfl, H', ⟨by have := HK1.out; omega⟩, ⟨by (with_reducible repeat (first | apply Kd.S_alloc | apply Kd.S_drewN | apply Kd.S_drew)); exact HO_0.out⟩, ⟨by repeat (first | (with_reducible first | exact HK.out | apply Kept.alloc | apply Kept.drewN | apply Kept.drew) | exact HK.out)⟩, ⟨by repeat (first | (with_reducible first | exact HB.out | apply below_alloc | apply pw_below_drewN | apply below_drew1) | exact HB.out)⟩⟩
        · rw [if_neg c4] at H
          exact absurd H (by simp)
      · rw [if_neg c3] at H
        have c3b0 : decide (x5_1 < (x0_1.length : Int)) = false := decide_eq_false c3
        clear c3
        simp only [Option.some.injEq, Prod.mk.injEq] at H
        obtain ⟨rfl, rfl⟩ := H
        obtain ⟨Ao14, co14, eo14⟩ := Kd.S_slice HO_0.out
        subst eo14
        go_wp2
        go_ret
        exact ⟨rfl, by (with_reducible repeat (first | apply Kd.S_alloc | apply Kd.S_drewN | apply Kd.S_drew)); exact HO_0.out, by repeat (first | (with_reducible first | exact HB.out | apply below_alloc | apply pw_below_drewN | apply below_drew1) | exact HB.out), by repeat (first | (with_reducible first | exact HK.out | apply Kept.alloc | apply Kept.drewN | apply Kept.drew) | exact HK.out)⟩

end Go.Proofs.Ytbgnjnlecpdfaaa.PFnExactRollback
