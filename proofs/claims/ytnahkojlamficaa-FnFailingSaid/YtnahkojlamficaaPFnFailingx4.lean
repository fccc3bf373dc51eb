-- Laid by a program of this session: a turned copy of the kit's print, with contracts by hand beside.
import Derived.Test.YtnahkojlamficaaPFnFailingx0
import Derived.Test.YtnahkojlamficaaPFnFailingx3
namespace Go.Proofs.Ytnahkojlamficaa.PFnFailing
open Go.RowKit Go.Proofs.YtnahkojlamficaaW.PrintWords Go.Proofs.YtnahkojlamficaaW.PrintLast Go.Proofs.YtnahkojlamficaaW.PrintMore
theorem ze0 {X : Prop} (h : X := by first | rfl | (simp [errW_none, errW_some] <;> rfl) | (simp [*, errW_none, errW_some] <;> rfl)) : X := h
theorem ze1 {X : Prop} (h : X := by repeat (first | (with_reducible first | exact HB.out | apply below_alloc | apply pw_below_drewN | apply below_drew1) | exact HB.out)) : X := h
theorem ze2 {X : Prop} (h : X := by first | rfl | (simp; done) | (simp [*]; done)) : X := h
theorem ze3 {X : Prop} (h : X := by first | (with_reducible assumption) | assumption) : X := h
theorem ze4 {X : Prop} (h : X := by (with_reducible repeat (first | refine blk_drewN ?_ _ | refine blk_drew ?_ | refine blk_alloc ?_ _)); refine blk_put (cs := #[.string ((rd_T55 l0 x10_1).f0), .slice A127_1 ((rd_T55 l0 x10_1).f1).length c127_1, .slice A127_2 ((rd_T55 l0 x10_1).f2).length c127_2, .string ((rd_T55 l0 x10_1).f3), .bool false]) ?_ 4 _ rfl; (with_reducible repeat (first | refine blk_drewN ?_ _ | refine blk_drew ?_ | refine blk_alloc ?_ _)); refine blk_put (cs := #[.string ((rd_T55 l0 x10_1).f0), .slice A127_1 ((rd_T55 l0 x10_1).f1).length c127_1, .slice A127_2 ((rd_T55 l0 x10_1).f2).length c127_2, .string (⟨#[]⟩ : ByteArray), .bool false]) ?_ 3 _ rfl; (with_reducible repeat (first | refine blk_drewN ?_ _ | refine blk_drew ?_ | refine blk_alloc ?_ _)); refine blk_put (cs := #[.string ((rd_T55 l0 x10_1).f0), .slice A127_1 ((rd_T55 l0 x10_1).f1).length c127_1, .slice none 0 0, .string (⟨#[]⟩ : ByteArray), .bool false]) ?_ 2 _ rfl; (with_reducible repeat (first | refine blk_drewN ?_ _ | refine blk_drew ?_ | refine blk_alloc ?_ _)); refine blk_put (cs := #[.string ((rd_T55 l0 x10_1).f0), .slice none 0 0, .slice none 0 0, .string (⟨#[]⟩ : ByteArray), .bool false]) ?_ 1 _ rfl; (with_reducible repeat (first | refine blk_drewN ?_ _ | refine blk_drew ?_ | refine blk_alloc ?_ _)); refine blk_put (cs := #[.string (⟨#[]⟩ : ByteArray), .slice none 0 0, .slice none 0 0, .string (⟨#[]⟩ : ByteArray), .bool false]) ?_ 0 _ rfl; (with_reducible repeat (first | refine blk_drewN ?_ _ | refine blk_drew ?_ | refine blk_alloc ?_ _)); exact BK128.out) : X := h
theorem ze5 {X : Prop} (h : X := by repeat (first | (with_reducible first | exact HB.out | apply below_alloc | apply pw_below_drewN | apply below_drew1 | refine below_set ?_ GE128.out) | exact HB.out)) : X := h
theorem ze6 {X : Prop} (h : X := by (try simp only [List.map_toArray, List.map_cons, List.map_nil]); first | done | rfl | (simp only [List.length_drop, List.length_take]; rfl)) : X := h
theorem ze7 {X : Prop} (h : X := by first | rfl | (simp [errW_none, errW_some] <;> rfl) | (simp only [← hji9]; first | rfl | (simp [errW_none, errW_some] <;> rfl)) | (simp [*, errW_none, errW_some] <;> rfl)) : X := h
theorem ze8 {A0 X : Prop} (a0 : A0) (h : A0 → X := by intro a0_; repeat (first | exact (Kd.C_below a0_ (qG GE128.out)) | (with_reducible refine Kd.C_alloc ?_ _) | (with_reducible refine Kd.C_drewN ?_ _) | (with_reducible refine Kd.C_drew ?_))) : X := h a0
attribute [local go_sem] max2_int min2_int max_two min_two max_three min_three max_four min_four   -- for this text's walks alone
set_option linter.unusedVariables false
set_option linter.unusedSimpArgs false

/-! ### impl_UnitsOk: function 15 -/
def impl_UnitsOk.l0 : Nat → List (S55) → List (S55) → Int → Int → Option (Bool)
 | 0, _, _, _, _ => none
 | k + 1, x0, x8, x9, x10 => if x10 < x9 then (if 0 ≤ x10 then (if x10 < (x8.length : Int) then ((impl_NameOk.f k ((rd_T55 x8 x10).f0)).bind fun t129 => (if t129 = true then (if x10 > 0 then (if 0 ≤ (wrap64 (x10 - 1)) then (if (wrap64 (x10 - 1)) < (x0.length : Int) then (if ((Op.bytesLess (((rd_T55 x0 (wrap64 (x10 - 1))).f0).toList) (((rd_T55 x8 x10).f0).toList)) = true) then (if (((rd_T55 x8 x10).f1).length : Int) > 20 then (some false) else (if (((rd_T55 x8 x10).f2).length : Int) > 20 then (some false) else ((impl_namesUp.f k ((rd_T55 x8 x10).f1)).bind fun t131 => (if t131 = true then ((impl_namesUp.f k ((rd_T55 x8 x10).f2)).bind fun t132 => (if t132 = true then (if (((rd_T55 x8 x10).f3).size : Int) > 4000 then (some false) else (impl_UnitsOk.l0 k x0 x8 x9 (wrap64 (x10 + 1)))) else (some false))) else (some false))))) else (some false)) else (none)) else (none)) else (if (((rd_T55 x8 x10).f1).length : Int) > 20 then (some false) else (if (((rd_T55 x8 x10).f2).length : Int) > 20 then (some false) else ((impl_namesUp.f k ((rd_T55 x8 x10).f1)).bind fun t133 => (if t133 = true then ((impl_namesUp.f k ((rd_T55 x8 x10).f2)).bind fun t134 => (if t134 = true then (if (((rd_T55 x8 x10).f3).size : Int) > 4000 then (some false) else (impl_UnitsOk.l0 k x0 x8 x9 (wrap64 (x10 + 1)))) else (some false))) else (some false)))))) else (some false))) else (none)) else (none)) else (some true)
def impl_UnitsOk.f (k : Nat) (l0 : List (S55)) : Option (Bool) := if (l0.length : Int) > 100 then (some false) else (impl_UnitsOk.l0 k l0 l0 (l0.length : Int) 0)
theorem impl_UnitsOk.mono_l : ∀ k, (∀ y0 y1 y2 y3, LeO (impl_UnitsOk.l0 k y0 y1 y2 y3) (impl_UnitsOk.l0 (k + 1) y0 y1 y2 y3))
 | 0 => fun _ _ _ _ r h => by simp [impl_UnitsOk.l0] at h
 | k + 1 => by
  have ih0 := impl_UnitsOk.mono_l k
  ·intro y0 y1 y2 y3
   unfold impl_UnitsOk.l0
   repeat' first
   | (with_reducible exact ih0 _ _ _ _)
   | (with_reducible exact impl_NameOk.mono _ _)
   | (with_reducible exact impl_namesUp.mono _ _)
   | (with_reducible exact LeO.refl _)
   | (with_reducible exact LeO.none _)
   | (with_reducible refine LeO.ite ?_ ?_)
   | (with_reducible refine LeO.bind ?_ (fun _ => ?_))
   | exact ih0 _ _ _ _
   | exact impl_NameOk.mono _ _
   | exact impl_namesUp.mono _ _
   | exact LeO.none _
   | refine LeO.ite ?_ ?_
   | refine LeO.bind ?_ (fun _ => ?_)
theorem impl_UnitsOk.mono : ∀ a0 k, LeO (impl_UnitsOk.f k a0) (impl_UnitsOk.f (k + 1) a0) := by
 intro a0 k
 have ih0 := impl_UnitsOk.mono_l k
 unfold impl_UnitsOk.f
 repeat' first
   | (with_reducible exact ih0 _ _ _ _)
   | (with_reducible exact impl_NameOk.mono _ _)
   | (with_reducible exact impl_namesUp.mono _ _)
   | (with_reducible exact LeO.refl _)
   | (with_reducible exact LeO.none _)
   | (with_reducible refine LeO.ite ?_ ?_)
   | (with_reducible refine LeO.bind ?_ (fun _ => ?_))
   | exact ih0 _ _ _ _
   | exact impl_NameOk.mono _ _
   | exact impl_namesUp.mono _ _
   | exact LeO.none _
   | refine LeO.ite ?_ ?_
   | refine LeO.bind ?_ (fun _ => ?_)
def impl_UnitsOk.T6 : Bool × List (List Nat × List Nat) := (true, [([], []), ([0], [0]), ([1], [1]), ([2], [2]), ([3, 2], [3]), ([4], [4]), ([5, 4], [4, 5]), ([6, 4, 4], [4, 6]), ([7], [7]), ([7], [7]), ([9, 7], [7, 9]), ([8, 10, 7], [7, 8, 10]), ([11, 7], [7, 11]), ([12, 7], [7, 12]), ([7], [7]), ([14, 7], [7, 14]), ([13, 15, 7], [7, 13, 15]), ([7, 16, 4], [4, 7, 16]), ([4, 17], [4, 17]), ([18, 7], [18]), ([19], [19]), ([20, 19], [19, 20]), ([21, 19], [19, 21]), ([22, 19], [19, 22]), ([19, 23], [19, 23]), ([24, 19], [24]), ([25], [25]), ([26, 25], [25, 26]), ([27, 25], [25, 27]), ([28, 25], [25, 28]), ([25, 29], [25, 29]), ([30, 25], [30]), ([31], [31]), ([32, 31], [31, 32]), ([33, 31, 31], [31, 33]), ([34, 31], [31, 34]), ([31, 35], [31, 35]), ([36, 34], [36]), ([37], [37]), ([38, 37], [37, 38]), ([39, 37, 37], [37, 39]), ([40, 37], [37, 40]), ([37, 41], [37, 41]), ([42, 40], [42]), ([43], [43]), ([44, 43], [43, 44]), ([45, 43], [43, 45]), ([46, 43], [43, 46]), ([43, 47], [43, 47])])
def impl_UnitsOk.B6 : List Nat := [0, 1, 3, 7, 15, 31, 63, 127, 255, 255, 767, 2047, 4095, 8191, 255, 16639, 65535, 131071, 262143, 524287, 1048575, 2097151, 4194303, 8388607, 16777215, 33554431, 67108863, 134217727, 268435455, 536870911, 1073741823, 2147483647, 4294967295, 8589934591, 17179869183, 34359738367, 68719476735, 137438953471, 274877906943, 549755813887, 1099511627775, 2199023255551, 4398046511103, 8796093022207, 17592186044415, 35184372088831, 70368744177663, 140737488355327, 281474976710655]
theorem impl_UnitsOk.tab6 : rtab .any (opsOf Try.f15 6) = impl_UnitsOk.T6 := by kernel_rfl
theorem impl_UnitsOk.bits6 : waitsOk impl_UnitsOk.T6.2 impl_UnitsOk.B6 = true := by kernel_rfl
set_option maxHeartbeats 8000000 in
set_option maxRecDepth 100000 in
theorem impl_UnitsOk.calls (k : Nat) (A0 : Option Addr) (c0 : Nat) (l0 : List (S55)) (r : Bool) (w : World) (hr0 : Kd.C k55 w A0 l0.length l0) (hc0 : l0.length ≤ c0) (h : impl_UnitsOk.f k l0 = some r) :
  Calls Try.prog 15 #[.slice A0 l0.length c0] w fun e w' => e = .returned (.bool r) ∧ Below w.heap.size w w' := by
 have hu55 := Try.underlying55
 have HR0 := Aside0.mk hr0
 have HC0 := Aside0.mk hc0
 clear hr0 hc0
 have HB := Aside0.mk (Below.refl w.heap.size w)
 have H : (if (l0.length : Int) > 100 then (some false) else (impl_UnitsOk.l0 k l0 l0 (l0.length : Int) 0)) = some r := h
 clear h
 by_cases c2 : (l0.length : Int) > 100
 ·rw [if_pos c2] at H
  have c2b0 : decide (100 < (l0.length : Int)) = true := decide_eq_true c2
  have c2b1 : decide (100 < l0.length) = true := decide_eq_true (by omega)
  clear c2
  obtain rfl := Option.some.inj H
  go_enter Try.func15, Try.ntmps15
  go_wp2
  go_ret
  exact ⟨ze0, ze1⟩
 ·rw [if_neg c2] at H
  have c2b0 : decide (100 < (l0.length : Int)) = false := decide_eq_false c2
  have c2b1 : decide (100 < l0.length) = false := decide_eq_false (by omega)
  clear c2
  have H' := Aside0.mk H
  clear H
  go_enter Try.func15, Try.ntmps15
  go_wp2
  go_loopg [10] k (fun kq v10 w' => ∃ (x10_1 : Int), v10 = .int .i64 x10_1 ∧ Aside0 (impl_UnitsOk.l0 kq l0 l0 (l0.length : Int) x10_1 = some r) ∧ Aside0 (kq ≤ k) ∧ Aside0 (Below w.heap.size w w'))
  case atStart => exact ⟨(0), ze2, H', ⟨Nat.le_refl _⟩, ⟨ze1⟩⟩
  case round =>
   clear H'
   try clear c1
   try clear c2
   try clear c2b0
   try clear c2b1
   try clear p2
   obtain ⟨x10_1, rfl, HA, HK1, HB⟩ := hrel
   cases gk with
   | zero => exact absurd HA.out (by simp [impl_UnitsOk.l0])
   | succ k1 =>
    have H := HA.out
    clear HA
    simp only [impl_UnitsOk.l0] at H
    by_cases c3 : x10_1 < (l0.length : Int)
    ·rw [if_pos c3] at H
     have c3b0 : decide (x10_1 < (l0.length : Int)) = true := decide_eq_true c3
     clear c3
     by_cases c4 : 0 ≤ x10_1
     ·rw [if_pos c4] at H
      have c4b0 : decide (0 ≤ x10_1) = true := decide_eq_true c4
      clear c4
      by_cases c5 : x10_1 < (l0.length : Int)
      ·rw [if_pos c5] at H
       have c5b0 : decide (x10_1 < (l0.length : Int)) = true := decide_eq_true c5
       clear c5
       replace H := Option.bind_eq_some_iff.mp H
       obtain ⟨t129, A60, H⟩ := H
       replace H : (if t129 = true then (if x10_1 > 0 then (if 0 ≤ (wrap64 (x10_1 - 1)) then (if (wrap64 (x10_1 - 1)) < (l0.length : Int) then (if ((Op.bytesLess (((rd_T55 l0 (wrap64 (x10_1 - 1))).f0).toList) (((rd_T55 l0 x10_1).f0).toList)) = true) then (if (((rd_T55 l0 x10_1).f1).length : Int) > 20 then (some false) else (if (((rd_T55 l0 x10_1).f2).length : Int) > 20 then (some false) else ((impl_namesUp.f k1 ((rd_T55 l0 x10_1).f1)).bind fun t131 => (if t131 = true then ((impl_namesUp.f k1 ((rd_T55 l0 x10_1).f2)).bind fun t132 => (if t132 = true then (if (((rd_T55 l0 x10_1).f3).size : Int) > 4000 then (some false) else (impl_UnitsOk.l0 k1 l0 l0 (l0.length : Int) (wrap64 (x10_1 + 1)))) else (some false))) else (some false))))) else (some false)) else (none)) else (none)) else (if (((rd_T55 l0 x10_1).f1).length : Int) > 20 then (some false) else (if (((rd_T55 l0 x10_1).f2).length : Int) > 20 then (some false) else ((impl_namesUp.f k1 ((rd_T55 l0 x10_1).f1)).bind fun t133 => (if t133 = true then ((impl_namesUp.f k1 ((rd_T55 l0 x10_1).f2)).bind fun t134 => (if t134 = true then (if (((rd_T55 l0 x10_1).f3).size : Int) > 4000 then (some false) else (impl_UnitsOk.l0 k1 l0 l0 (l0.length : Int) (wrap64 (x10_1 + 1)))) else (some false))) else (some false)))))) else (some false)) = some r := H
       have A6 := Aside0.mk A60
       clear A60
       by_cases c7 : t129 = true
       ·subst c7
        have H1 : (if x10_1 > 0 then (if 0 ≤ (wrap64 (x10_1 - 1)) then (if (wrap64 (x10_1 - 1)) < (l0.length : Int) then (if ((Op.bytesLess (((rd_T55 l0 (wrap64 (x10_1 - 1))).f0).toList) (((rd_T55 l0 x10_1).f0).toList)) = true) then (if (((rd_T55 l0 x10_1).f1).length : Int) > 20 then (some false) else (if (((rd_T55 l0 x10_1).f2).length : Int) > 20 then (some false) else ((impl_namesUp.f k1 ((rd_T55 l0 x10_1).f1)).bind fun t131 => (if t131 = true then ((impl_namesUp.f k1 ((rd_T55 l0 x10_1).f2)).bind fun t132 => (if t132 = true then (if (((rd_T55 l0 x10_1).f3).size : Int) > 4000 then (some false) else (impl_UnitsOk.l0 k1 l0 l0 (l0.length : Int) (wrap64 (x10_1 + 1)))) else (some false))) else (some false))))) else (some false)) else (none)) else (none)) else (if (((rd_T55 l0 x10_1).f1).length : Int) > 20 then (some false) else (if (((rd_T55 l0 x10_1).f2).length : Int) > 20 then (some false) else ((impl_namesUp.f k1 ((rd_T55 l0 x10_1).f1)).bind fun t133 => (if t133 = true then ((impl_namesUp.f k1 ((rd_T55 l0 x10_1).f2)).bind fun t134 => (if t134 = true then (if (((rd_T55 l0 x10_1).f3).size : Int) > 4000 then (some false) else (impl_UnitsOk.l0 k1 l0 l0 (l0.length : Int) (wrap64 (x10_1 + 1)))) else (some false))) else (some false)))))) = some r := by rw [if_pos rfl] at H; exact H
        clear H
        have H := H1
        clear H1
        by_cases c8 : x10_1 > 0
        ·rw [if_pos c8] at H
         have c8b0 : decide (0 < x10_1) = true := decide_eq_true c8
         clear c8
         obtain ⟨ji9, hji9⟩ : ∃ j_ : Int, (wrap64 (x10_1 - 1)) = j_ := ⟨_, rfl⟩
         replace H : (if 0 ≤ (ji9) then (if (ji9) < (l0.length : Int) then (if ((Op.bytesLess (((rd_T55 l0 (ji9)).f0).toList) (((rd_T55 l0 x10_1).f0).toList)) = true) then (if (((rd_T55 l0 x10_1).f1).length : Int) > 20 then (some false) else (if (((rd_T55 l0 x10_1).f2).length : Int) > 20 then (some false) else ((impl_namesUp.f k1 ((rd_T55 l0 x10_1).f1)).bind fun t131 => (if t131 = true then ((impl_namesUp.f k1 ((rd_T55 l0 x10_1).f2)).bind fun t132 => (if t132 = true then (if (((rd_T55 l0 x10_1).f3).size : Int) > 4000 then (some false) else (impl_UnitsOk.l0 k1 l0 l0 (l0.length : Int) (wrap64 (x10_1 + 1)))) else (some false))) else (some false))))) else (some false)) else (none)) else (none)) = some r := by first | (rw [hji9] at H; exact H) | (simp only [hji9] at H ⊢; exact H)
         (try rw [hji9] at A6)
         have hji9w : (IntKind.i64.wrap (x10_1 - 1)) = ji9 := (i64_w _).trans hji9
         by_cases c10 : 0 ≤ (ji9)
         ·rw [if_pos c10] at H
          have c10b0 : decide (0 ≤ (ji9)) = true := decide_eq_true c10
          clear c10
          by_cases c11 : (ji9) < (l0.length : Int)
          ·rw [if_pos c11] at H
           have c11b0 : decide ((ji9) < (l0.length : Int)) = true := decide_eq_true c11
           clear c11
           by_cases c12 : ((Op.bytesLess (((rd_T55 l0 (ji9)).f0).toList) (((rd_T55 l0 x10_1).f0).toList)) = true)
           ·rw [if_pos c12] at H
            have c12b0 : (Op.bytesLess (((rd_T55 l0 (ji9)).f0).toList) (((rd_T55 l0 x10_1).f0).toList)) = true := c12
            clear c12
            by_cases c13 : (((rd_T55 l0 x10_1).f1).length : Int) > 20
            ·rw [if_pos c13] at H
             have c13b0 : decide (20 < (((rd_T55 l0 x10_1).f1).length : Int)) = true := decide_eq_true c13
             have c13b1 : decide (20 < ((rd_T55 l0 x10_1).f1).length) = true := decide_eq_true (by omega)
             clear c13
             obtain rfl := Option.some.inj H
             have p127 : 0 ≤ (x10_1 : Int) := of_decide_eq_true ze3
             have q127 : x10_1 < (l0.length : Int) := of_decide_eq_true ze3
             obtain ⟨ad127, A127_1, c127_1, A127_2, c127_2, e127, hx127_0, hx127_1, hx127_2, hx127_3, hx127_4, hl127_1, hi127_1, hl127_2, hi127_2⟩ := at_T55 HR0.out x10_1 p127 q127
             cases e127
             try (replace hx127_0 := (HB.out.cell (World.block_lt_of_cell? w _ hx127_0)).trans hx127_0)
             try (replace hx127_1 := (HB.out.cell (World.block_lt_of_cell? w _ hx127_1)).trans hx127_1)
             try (replace hx127_2 := (HB.out.cell (World.block_lt_of_cell? w _ hx127_2)).trans hx127_2)
             try (replace hx127_3 := (HB.out.cell (World.block_lt_of_cell? w _ hx127_3)).trans hx127_3)
             try (replace hx127_4 := (HB.out.cell (World.block_lt_of_cell? w _ hx127_4)).trans hx127_4)
             have HR127_1 := Aside0.mk hi127_1
             have HC127_1 := Aside0.mk hl127_1
             clear hi127_1 hl127_1
             have HR127_2 := Aside0.mk hi127_2
             have HC127_2 := Aside0.mk hl127_2
             clear hi127_2 hl127_2
             replace p127 := eq_true p127
             replace q127 := eq_true q127
             try go_wp2_with (first | ((with_reducible refine gate_dst (N := 4) rfl ?_); (try (refine gate_guard (by rfl) ?_; dsimp only)); refine box_event ?hg (N := 4) ?hd (cs := #[.string (⟨#[]⟩ : ByteArray), .slice none 0 0, .slice none 0 0, .string (⟨#[]⟩ : ByteArray), .bool false]) (t := 55) ?hr ?_; (case hd => rfl); (case hg => rfl); (case hr => first | (go_simp; done) | (go_simp; rfl)); intro gb128 hg w14 hbox hb; have BK128 := Aside0.mk (hbox); have GW128 := Aside0.mk ((by rw [hg]; exact (below_size qB) : w.heap.size ≤ gb128)); have GE128 := Aside0.mk ((by rw [hg]; exact (below_size qB) : w.heap.size ≤ gb128)); replace HB := Aside0.mk (below_step qB hb); clear hb hbox hg; have hcz15_0 : w14.cell? ⟨gb128, 0, none⟩ = some (.string (⟨#[]⟩ : ByteArray)) := (blk_cell BK128.out 0).trans rfl; have hcz15_1 : w14.cell? ⟨gb128, 1, none⟩ = some (.slice none 0 0) := (blk_cell BK128.out 1).trans rfl; have hcz15_2 : w14.cell? ⟨gb128, 2, none⟩ = some (.slice none 0 0) := (blk_cell BK128.out 2).trans rfl; have hcz15_3 : w14.cell? ⟨gb128, 3, none⟩ = some (.string (⟨#[]⟩ : ByteArray)) := (blk_cell BK128.out 3).trans rfl; have hcz15_4 : w14.cell? ⟨gb128, 4, none⟩ = some (.bool false) := (blk_cell BK128.out 4).trans rfl; have hfz15_0 := blk_frozen BK128.out 0; have hfz15_1 := blk_frozen BK128.out 1; have hfz15_2 := blk_frozen BK128.out 2; have hfz15_3 := blk_frozen BK128.out 3; have hfz15_4 := blk_frozen BK128.out 4))
             have n0_ : Aside0 ((((((w14.setCell ⟨gb128, 0, none⟩ (.string ((rd_T55 l0 x10_1).f0))).setCell ⟨gb128, 1, none⟩ (.slice A127_1 ((rd_T55 l0 x10_1).f1).length c127_1)).setCell ⟨gb128, 2, none⟩ (.slice A127_2 ((rd_T55 l0 x10_1).f2).length c127_2)).setCell ⟨gb128, 3, none⟩ (.string ((rd_T55 l0 x10_1).f3))).setCell ⟨gb128, 4, none⟩ (.bool ((rd_T55 l0 x10_1).f4))).heap[gb128]? = some (.cells #[.string ((rd_T55 l0 x10_1).f0), .slice A127_1 ((rd_T55 l0 x10_1).f1).length c127_1, .slice A127_2 ((rd_T55 l0 x10_1).f2).length c127_2, .string ((rd_T55 l0 x10_1).f3), .bool ((rd_T55 l0 x10_1).f4)] 55 (0, 0))) := ⟨ze4⟩
             have n1_ : Aside0 (Below w.heap.size w (((((w14.setCell ⟨gb128, 0, none⟩ (.string ((rd_T55 l0 x10_1).f0))).setCell ⟨gb128, 1, none⟩ (.slice A127_1 ((rd_T55 l0 x10_1).f1).length c127_1)).setCell ⟨gb128, 2, none⟩ (.slice A127_2 ((rd_T55 l0 x10_1).f2).length c127_2)).setCell ⟨gb128, 3, none⟩ (.string ((rd_T55 l0 x10_1).f3))).setCell ⟨gb128, 4, none⟩ (.bool ((rd_T55 l0 x10_1).f4)))) := ⟨ze5⟩
             (try clear BK128)
             (try clear HB)
             generalize (((((w14.setCell ⟨gb128, 0, none⟩ (.string ((rd_T55 l0 x10_1).f0))).setCell ⟨gb128, 1, none⟩ (.slice A127_1 ((rd_T55 l0 x10_1).f1).length c127_1)).setCell ⟨gb128, 2, none⟩ (.slice A127_2 ((rd_T55 l0 x10_1).f2).length c127_2)).setCell ⟨gb128, 3, none⟩ (.string ((rd_T55 l0 x10_1).f3))).setCell ⟨gb128, 4, none⟩ (.bool ((rd_T55 l0 x10_1).f4))) = w16 at n0_ n1_ ⊢
             have BK128 := n0_
             have HB := n1_
             clear n0_ n1_
             replace BK128 := Aside0.mk (blk_drew BK128.out)
             replace HB := Aside0.mk (below_drew1 HB.out)
             have p130 : 0 ≤ ((ji9) : Int) := of_decide_eq_true ze3
             have q130 : (ji9) < (l0.length : Int) := of_decide_eq_true ze3
             obtain ⟨ad130, A130_1, c130_1, A130_2, c130_2, e130, hx130_0, hx130_1, hx130_2, hx130_3, hx130_4, hl130_1, hi130_1, hl130_2, hi130_2⟩ := at_T55 HR0.out (ji9) p130 q130
             have hw130_4 := hx130_4
             have hw130_3 := hx130_3
             have hw130_2 := hx130_2
             have hw130_1 := hx130_1
             have hw130_0 := hx130_0
             obtain rfl : ad127 = ad130 := (by injection e130)
             try (replace hx130_0 := (HB.out.cell (World.block_lt_of_cell? w _ hx130_0)).trans hx130_0)
             try (replace hx130_1 := (HB.out.cell (World.block_lt_of_cell? w _ hx130_1)).trans hx130_1)
             try (replace hx130_2 := (HB.out.cell (World.block_lt_of_cell? w _ hx130_2)).trans hx130_2)
             try (replace hx130_3 := (HB.out.cell (World.block_lt_of_cell? w _ hx130_3)).trans hx130_3)
             try (replace hx130_4 := (HB.out.cell (World.block_lt_of_cell? w _ hx130_4)).trans hx130_4)
             have HR130_1 := Aside0.mk hi130_1
             have HC130_1 := Aside0.mk hl130_1
             clear hi130_1 hl130_1
             have HR130_2 := Aside0.mk hi130_2
             have HC130_2 := Aside0.mk hl130_2
             clear hi130_2 hl130_2
             replace p130 := eq_true p130
             replace q130 := eq_true q130
             refine start_ (n := 49) (S := fun w' => w'.cell? ⟨gb128, 0, none⟩ = some (.string ((rd_T55 l0 x10_1).f0)) ∧ w'.cell? ⟨gb128, 1, none⟩ = some (.slice A127_1 ((rd_T55 l0 x10_1).f1).length c127_1) ∧ w'.cell? ⟨gb128, 2, none⟩ = some (.slice A127_2 ((rd_T55 l0 x10_1).f2).length c127_2) ∧ w'.cell? ⟨gb128, 3, none⟩ = some (.string ((rd_T55 l0 x10_1).f3)) ∧ w'.cell? ⟨gb128, 4, none⟩ = some (.bool ((rd_T55 l0 x10_1).f4)) ∧ w'.cell? (ad127.add (((ji9)).toNat * 5)) = some (.string ((rd_T55 l0 (ji9)).f0)) ∧ w'.cell? ⟨(ad127.add (((ji9)).toNat * 5)).block, (ad127.add (((ji9)).toNat * 5)).off + 1, none⟩ = some (.slice A130_1 ((rd_T55 l0 (ji9)).f1).length c130_1) ∧ w'.cell? ⟨(ad127.add (((ji9)).toNat * 5)).block, (ad127.add (((ji9)).toNat * 5)).off + 2, none⟩ = some (.slice A130_2 ((rd_T55 l0 (ji9)).f2).length c130_2) ∧ w'.cell? ⟨(ad127.add (((ji9)).toNat * 5)).block, (ad127.add (((ji9)).toNat * 5)).off + 3, none⟩ = some (.string ((rd_T55 l0 (ji9)).f3)) ∧ w'.cell? ⟨(ad127.add (((ji9)).toNat * 5)).block, (ad127.add (((ji9)).toNat * 5)).off + 4, none⟩ = some (.bool ((rd_T55 l0 (ji9)).f4))) (ds := []) (tf 49 0) (by kernel_rfl) rfl rfl ⟨(blk_cell BK128.out 0).trans rfl, (blk_cell BK128.out 1).trans rfl, (blk_cell BK128.out 2).trans rfl, (blk_cell BK128.out 3).trans rfl, (blk_cell BK128.out 4).trans rfl, ((HB.out.cell (World.block_lt_of_cell? w _ hw130_0)).trans hw130_0), ((HB.out.cell (World.block_lt_of_cell? w _ hw130_1)).trans hw130_1), ((HB.out.cell (World.block_lt_of_cell? w _ hw130_2)).trans hw130_2), ((HB.out.cell (World.block_lt_of_cell? w _ hw130_3)).trans hw130_3), ((HB.out.cell (World.block_lt_of_cell? w _ hw130_4)).trans hw130_4)⟩ (fun hHeld => ?_); refine with_tabW impl_UnitsOk.tab6 impl_UnitsOk.bits6 (fun HT_ HW_ => ?_)
             generalize w16.drew = w17 at BK128 HB HR130_1 HR130_2 hx130_0 hx130_1 hx130_2 hx130_3 hx130_4 hHeld ⊢
             refine qA 0 15 (tf 49 1) ?_
             refine qT 1 16 (tf 49 3) ?_
             refine one_ (i := 2) (N := some 17) (tf 49 7) rfl rfl (one_of HT_.out (by kernel_rfl)) (by decide) (fun K hK => ?_)
             refine goes_ Try.func51 (by kernel_rfl) rfl #[.string ((rd_T55 l0 x10_1).f0)] (by rfl) rfl rfl ze6 ?_
             with_reducible refine (impl_NameOk.calls k1 ((rd_T55 l0 x10_1).f0) true _ A6.out).mono ?_
             rintro e w' ⟨rfl, ⟨nd, rfl⟩⟩
             refine ⟨_, rfl, ?_⟩
             refine hK.out _ _ ⟨(blk_cell BK128.out 0).trans rfl, (blk_cell BK128.out 1).trans rfl, (blk_cell BK128.out 2).trans rfl, (blk_cell BK128.out 3).trans rfl, (blk_cell BK128.out 4).trans rfl, ((HB.out.cell (World.block_lt_of_cell? w _ hw130_0)).trans hw130_0), ((HB.out.cell (World.block_lt_of_cell? w _ hw130_1)).trans hw130_1), ((HB.out.cell (World.block_lt_of_cell? w _ hw130_2)).trans hw130_2), ((HB.out.cell (World.block_lt_of_cell? w _ hw130_3)).trans hw130_3), ((HB.out.cell (World.block_lt_of_cell? w _ hw130_4)).trans hw130_4)⟩ (fun hHeld => ?_)
             clear hK K
             refine norm_ (a' := ?_) ?_ ?_
             rotate_left
             ·show Act.put _ (some 17) _ = _
              simp only [Act.put, sT, s0, sS, i64_w, i32_w]
              rfl
             refine qA 3 18 (tf 49 15) ?_
             refine qA 4 19 (tf 49 31) ?_
             refine qA 5 20 (tf 49 63) ?_
             refine qA 6 21 (tf 49 127) ?_
             refine qA 7 22 (tf 49 255) ?_
             refine qA 8 23 (tf 49 511) ?_
             refine qA 9 24 (tf 49 1023) ?_
             refine qA 10 25 (tf 49 2047) ?_
             refine qA 11 26 (tf 49 4095) ?_
             refine qA 12 27 (tf 49 8191) ?_
             refine qA 14 29 (tf 49 24575) ?_
             refine qT 13 28 (tf 49 32767) ?_
             refine qT 15 30 (tf 49 65535) ?_
             refine qA 16 31 (tf 49 131071) ?_
             refine qA 17 32 (tf 49 262143) ?_
             refine qA 18 33 (tf 49 524287) ?_
             refine qA 19 34 (tf 49 1048575) ?_
             refine qA 20 35 (tf 49 2097151) ?_
             refine qT 21 36 (tf 49 4194303) ?_
             refine qA 22 37 (tf 49 8388607) ?_
             refine qA 23 38 (tf 49 16777215) ?_
             refine qA 24 39 (tf 49 33554431) ?_
             refine qA 25 40 (tf 49 67108863) ?_
             refine qU 26 41 (tf 49 134217727) ?_
             refine qU 27 42 (tf 49 268435455) ?_
             refine qU 28 43 (tf 49 536870911) ?_
             refine qU 29 44 (tf 49 1073741823) ?_
             refine qA 30 45 (tf 49 2147483647) ?_
             refine qA 31 46 (tf 49 4294967295) ?_
             refine qU 32 47 (tf 49 8589934591) ?_
             refine qU 33 48 (tf 49 17179869183) ?_
             refine qU 34 49 (tf 49 34359738367) ?_
             refine qU 35 50 (tf 49 68719476735) ?_
             refine qA 36 51 (tf 49 137438953471) ?_
             refine qA 37 52 (tf 49 274877906943) ?_
             refine qU 38 53 (tf 49 549755813887) ?_
             refine qU 39 54 (tf 49 1099511627775) ?_
             refine qU 40 55 (tf 49 2199023255551) ?_
             refine qU 41 56 (tf 49 4398046511103) ?_
             refine qA 42 57 (tf 49 8796093022207) ?_
             refine qA 43 58 (tf 49 17592186044415) ?_
             refine qU 44 59 (tf 49 35184372088831) ?_
             refine qU 45 60 (tf 49 70368744177663) ?_
             refine qU 46 61 (tf 49 140737488355327) ?_
             refine qU 47 62 (tf 49 281474976710655) ?_
             refine qA 48 63 (tf 49 562949953421311) ?_
             refine done_ (done_of HT_.out (by kernel_rfl)) ?_
             try go_wp2
             go_ret
             exact ⟨ze7, ze5⟩
            ·rw [if_neg c13] at H
             have c13b0 : decide (20 < (((rd_T55 l0 x10_1).f1).length : Int)) = false := decide_eq_false c13
             have c13b1 : decide (20 < ((rd_T55 l0 x10_1).f1).length) = false := decide_eq_false (by omega)
             clear c13
             by_cases c18 : (((rd_T55 l0 x10_1).f2).length : Int) > 20
             ·rw [if_pos c18] at H
              have c18b0 : decide (20 < (((rd_T55 l0 x10_1).f2).length : Int)) = true := decide_eq_true c18
              have c18b1 : decide (20 < ((rd_T55 l0 x10_1).f2).length) = true := decide_eq_true (by omega)
              clear c18
              obtain rfl := Option.some.inj H
              have p127 : 0 ≤ (x10_1 : Int) := of_decide_eq_true ze3
              have q127 : x10_1 < (l0.length : Int) := of_decide_eq_true ze3
              obtain ⟨ad127, A127_1, c127_1, A127_2, c127_2, e127, hx127_0, hx127_1, hx127_2, hx127_3, hx127_4, hl127_1, hi127_1, hl127_2, hi127_2⟩ := at_T55 HR0.out x10_1 p127 q127
              cases e127
              try (replace hx127_0 := (HB.out.cell (World.block_lt_of_cell? w _ hx127_0)).trans hx127_0)
              try (replace hx127_1 := (HB.out.cell (World.block_lt_of_cell? w _ hx127_1)).trans hx127_1)
              try (replace hx127_2 := (HB.out.cell (World.block_lt_of_cell? w _ hx127_2)).trans hx127_2)
              try (replace hx127_3 := (HB.out.cell (World.block_lt_of_cell? w _ hx127_3)).trans hx127_3)
              try (replace hx127_4 := (HB.out.cell (World.block_lt_of_cell? w _ hx127_4)).trans hx127_4)
              have HR127_1 := Aside0.mk hi127_1
              have HC127_1 := Aside0.mk hl127_1
              clear hi127_1 hl127_1
              have HR127_2 := Aside0.mk hi127_2
              have HC127_2 := Aside0.mk hl127_2
              clear hi127_2 hl127_2
              replace p127 := eq_true p127
              replace q127 := eq_true q127
              try go_wp2_with (first | ((with_reducible refine gate_dst (N := 4) rfl ?_); (try (refine gate_guard (by rfl) ?_; dsimp only)); refine box_event ?hg (N := 4) ?hd (cs := #[.string (⟨#[]⟩ : ByteArray), .slice none 0 0, .slice none 0 0, .string (⟨#[]⟩ : ByteArray), .bool false]) (t := 55) ?hr ?_; (case hd => rfl); (case hg => rfl); (case hr => first | (go_simp; done) | (go_simp; rfl)); intro gb128 hg w19 hbox hb; have BK128 := Aside0.mk (hbox); have GW128 := Aside0.mk ((by rw [hg]; exact (below_size qB) : w.heap.size ≤ gb128)); have GE128 := Aside0.mk ((by rw [hg]; exact (below_size qB) : w.heap.size ≤ gb128)); replace HB := Aside0.mk (below_step qB hb); clear hb hbox hg; have hcz20_0 : w19.cell? ⟨gb128, 0, none⟩ = some (.string (⟨#[]⟩ : ByteArray)) := (blk_cell BK128.out 0).trans rfl; have hcz20_1 : w19.cell? ⟨gb128, 1, none⟩ = some (.slice none 0 0) := (blk_cell BK128.out 1).trans rfl; have hcz20_2 : w19.cell? ⟨gb128, 2, none⟩ = some (.slice none 0 0) := (blk_cell BK128.out 2).trans rfl; have hcz20_3 : w19.cell? ⟨gb128, 3, none⟩ = some (.string (⟨#[]⟩ : ByteArray)) := (blk_cell BK128.out 3).trans rfl; have hcz20_4 : w19.cell? ⟨gb128, 4, none⟩ = some (.bool false) := (blk_cell BK128.out 4).trans rfl; have hfz20_0 := blk_frozen BK128.out 0; have hfz20_1 := blk_frozen BK128.out 1; have hfz20_2 := blk_frozen BK128.out 2; have hfz20_3 := blk_frozen BK128.out 3; have hfz20_4 := blk_frozen BK128.out 4))
              have n0_ : Aside0 ((((((w19.setCell ⟨gb128, 0, none⟩ (.string ((rd_T55 l0 x10_1).f0))).setCell ⟨gb128, 1, none⟩ (.slice A127_1 ((rd_T55 l0 x10_1).f1).length c127_1)).setCell ⟨gb128, 2, none⟩ (.slice A127_2 ((rd_T55 l0 x10_1).f2).length c127_2)).setCell ⟨gb128, 3, none⟩ (.string ((rd_T55 l0 x10_1).f3))).setCell ⟨gb128, 4, none⟩ (.bool ((rd_T55 l0 x10_1).f4))).heap[gb128]? = some (.cells #[.string ((rd_T55 l0 x10_1).f0), .slice A127_1 ((rd_T55 l0 x10_1).f1).length c127_1, .slice A127_2 ((rd_T55 l0 x10_1).f2).length c127_2, .string ((rd_T55 l0 x10_1).f3), .bool ((rd_T55 l0 x10_1).f4)] 55 (0, 0))) := ⟨ze4⟩
              have n1_ : Aside0 (Below w.heap.size w (((((w19.setCell ⟨gb128, 0, none⟩ (.string ((rd_T55 l0 x10_1).f0))).setCell ⟨gb128, 1, none⟩ (.slice A127_1 ((rd_T55 l0 x10_1).f1).length c127_1)).setCell ⟨gb128, 2, none⟩ (.slice A127_2 ((rd_T55 l0 x10_1).f2).length c127_2)).setCell ⟨gb128, 3, none⟩ (.string ((rd_T55 l0 x10_1).f3))).setCell ⟨gb128, 4, none⟩ (.bool ((rd_T55 l0 x10_1).f4)))) := ⟨ze5⟩
              (try clear BK128)
              (try clear HB)
              generalize (((((w19.setCell ⟨gb128, 0, none⟩ (.string ((rd_T55 l0 x10_1).f0))).setCell ⟨gb128, 1, none⟩ (.slice A127_1 ((rd_T55 l0 x10_1).f1).length c127_1)).setCell ⟨gb128, 2, none⟩ (.slice A127_2 ((rd_T55 l0 x10_1).f2).length c127_2)).setCell ⟨gb128, 3, none⟩ (.string ((rd_T55 l0 x10_1).f3))).setCell ⟨gb128, 4, none⟩ (.bool ((rd_T55 l0 x10_1).f4))) = w21 at n0_ n1_ ⊢
              have BK128 := n0_
              have HB := n1_
              clear n0_ n1_
              replace BK128 := Aside0.mk (blk_drew BK128.out)
              replace HB := Aside0.mk (below_drew1 HB.out)
              have p130 : 0 ≤ ((ji9) : Int) := of_decide_eq_true ze3
              have q130 : (ji9) < (l0.length : Int) := of_decide_eq_true ze3
              obtain ⟨ad130, A130_1, c130_1, A130_2, c130_2, e130, hx130_0, hx130_1, hx130_2, hx130_3, hx130_4, hl130_1, hi130_1, hl130_2, hi130_2⟩ := at_T55 HR0.out (ji9) p130 q130
              have hw130_4 := hx130_4
              have hw130_3 := hx130_3
              have hw130_2 := hx130_2
              have hw130_1 := hx130_1
              have hw130_0 := hx130_0
              obtain rfl : ad127 = ad130 := (by injection e130)
              try (replace hx130_0 := (HB.out.cell (World.block_lt_of_cell? w _ hx130_0)).trans hx130_0)
              try (replace hx130_1 := (HB.out.cell (World.block_lt_of_cell? w _ hx130_1)).trans hx130_1)
              try (replace hx130_2 := (HB.out.cell (World.block_lt_of_cell? w _ hx130_2)).trans hx130_2)
              try (replace hx130_3 := (HB.out.cell (World.block_lt_of_cell? w _ hx130_3)).trans hx130_3)
              try (replace hx130_4 := (HB.out.cell (World.block_lt_of_cell? w _ hx130_4)).trans hx130_4)
              have HR130_1 := Aside0.mk hi130_1
              have HC130_1 := Aside0.mk hl130_1
              clear hi130_1 hl130_1
              have HR130_2 := Aside0.mk hi130_2
              have HC130_2 := Aside0.mk hl130_2
              clear hi130_2 hl130_2
              replace p130 := eq_true p130
              replace q130 := eq_true q130
              refine start_ (n := 49) (S := fun w' => w'.cell? ⟨gb128, 0, none⟩ = some (.string ((rd_T55 l0 x10_1).f0)) ∧ w'.cell? ⟨gb128, 1, none⟩ = some (.slice A127_1 ((rd_T55 l0 x10_1).f1).length c127_1) ∧ w'.cell? ⟨gb128, 2, none⟩ = some (.slice A127_2 ((rd_T55 l0 x10_1).f2).length c127_2) ∧ w'.cell? ⟨gb128, 3, none⟩ = some (.string ((rd_T55 l0 x10_1).f3)) ∧ w'.cell? ⟨gb128, 4, none⟩ = some (.bool ((rd_T55 l0 x10_1).f4)) ∧ w'.cell? (ad127.add (((ji9)).toNat * 5)) = some (.string ((rd_T55 l0 (ji9)).f0)) ∧ w'.cell? ⟨(ad127.add (((ji9)).toNat * 5)).block, (ad127.add (((ji9)).toNat * 5)).off + 1, none⟩ = some (.slice A130_1 ((rd_T55 l0 (ji9)).f1).length c130_1) ∧ w'.cell? ⟨(ad127.add (((ji9)).toNat * 5)).block, (ad127.add (((ji9)).toNat * 5)).off + 2, none⟩ = some (.slice A130_2 ((rd_T55 l0 (ji9)).f2).length c130_2) ∧ w'.cell? ⟨(ad127.add (((ji9)).toNat * 5)).block, (ad127.add (((ji9)).toNat * 5)).off + 3, none⟩ = some (.string ((rd_T55 l0 (ji9)).f3)) ∧ w'.cell? ⟨(ad127.add (((ji9)).toNat * 5)).block, (ad127.add (((ji9)).toNat * 5)).off + 4, none⟩ = some (.bool ((rd_T55 l0 (ji9)).f4))) (ds := []) (tf 49 0) (by kernel_rfl) rfl rfl ⟨(blk_cell BK128.out 0).trans rfl, (blk_cell BK128.out 1).trans rfl, (blk_cell BK128.out 2).trans rfl, (blk_cell BK128.out 3).trans rfl, (blk_cell BK128.out 4).trans rfl, ((HB.out.cell (World.block_lt_of_cell? w _ hw130_0)).trans hw130_0), ((HB.out.cell (World.block_lt_of_cell? w _ hw130_1)).trans hw130_1), ((HB.out.cell (World.block_lt_of_cell? w _ hw130_2)).trans hw130_2), ((HB.out.cell (World.block_lt_of_cell? w _ hw130_3)).trans hw130_3), ((HB.out.cell (World.block_lt_of_cell? w _ hw130_4)).trans hw130_4)⟩ (fun hHeld => ?_); refine with_tabW impl_UnitsOk.tab6 impl_UnitsOk.bits6 (fun HT_ HW_ => ?_)
              generalize w21.drew = w22 at BK128 HB HR130_1 HR130_2 hx130_0 hx130_1 hx130_2 hx130_3 hx130_4 hHeld ⊢
              refine qA 0 15 (tf 49 1) ?_
              refine qT 1 16 (tf 49 3) ?_
              refine one_ (i := 2) (N := some 17) (tf 49 7) rfl rfl (one_of HT_.out (by kernel_rfl)) (by decide) (fun K hK => ?_)
              refine goes_ Try.func51 (by kernel_rfl) rfl #[.string ((rd_T55 l0 x10_1).f0)] (by rfl) rfl rfl ze6 ?_
              with_reducible refine (impl_NameOk.calls k1 ((rd_T55 l0 x10_1).f0) true _ A6.out).mono ?_
              rintro e w' ⟨rfl, ⟨nd, rfl⟩⟩
              refine ⟨_, rfl, ?_⟩
              refine hK.out _ _ ⟨(blk_cell BK128.out 0).trans rfl, (blk_cell BK128.out 1).trans rfl, (blk_cell BK128.out 2).trans rfl, (blk_cell BK128.out 3).trans rfl, (blk_cell BK128.out 4).trans rfl, ((HB.out.cell (World.block_lt_of_cell? w _ hw130_0)).trans hw130_0), ((HB.out.cell (World.block_lt_of_cell? w _ hw130_1)).trans hw130_1), ((HB.out.cell (World.block_lt_of_cell? w _ hw130_2)).trans hw130_2), ((HB.out.cell (World.block_lt_of_cell? w _ hw130_3)).trans hw130_3), ((HB.out.cell (World.block_lt_of_cell? w _ hw130_4)).trans hw130_4)⟩ (fun hHeld => ?_)
              clear hK K
              refine norm_ (a' := ?_) ?_ ?_
              rotate_left
              ·show Act.put _ (some 17) _ = _
               simp only [Act.put, sT, s0, sS, i64_w, i32_w]
               rfl
              refine qA 3 18 (tf 49 15) ?_
              refine qA 4 19 (tf 49 31) ?_
              refine qA 5 20 (tf 49 63) ?_
              refine qA 6 21 (tf 49 127) ?_
              refine qA 7 22 (tf 49 255) ?_
              refine qA 8 23 (tf 49 511) ?_
              refine qA 9 24 (tf 49 1023) ?_
              refine qA 10 25 (tf 49 2047) ?_
              refine qA 11 26 (tf 49 4095) ?_
              refine qA 12 27 (tf 49 8191) ?_
              refine qA 14 29 (tf 49 24575) ?_
              refine qT 13 28 (tf 49 32767) ?_
              refine qT 15 30 (tf 49 65535) ?_
              refine qA 16 31 (tf 49 131071) ?_
              refine qA 17 32 (tf 49 262143) ?_
              refine qA 18 33 (tf 49 524287) ?_
              refine qA 19 34 (tf 49 1048575) ?_
              refine qA 20 35 (tf 49 2097151) ?_
              refine qT 21 36 (tf 49 4194303) ?_
              refine qA 22 37 (tf 49 8388607) ?_
              refine qA 23 38 (tf 49 16777215) ?_
              refine qA 24 39 (tf 49 33554431) ?_
              refine qA 25 40 (tf 49 67108863) ?_
              refine qA 26 41 (tf 49 134217727) ?_
              refine qT 27 42 (tf 49 268435455) ?_
              refine qA 28 43 (tf 49 536870911) ?_
              refine qA 29 44 (tf 49 1073741823) ?_
              refine qA 30 45 (tf 49 2147483647) ?_
              refine qA 31 46 (tf 49 4294967295) ?_
              refine qU 32 47 (tf 49 8589934591) ?_
              refine qU 33 48 (tf 49 17179869183) ?_
              refine qU 34 49 (tf 49 34359738367) ?_
              refine qU 35 50 (tf 49 68719476735) ?_
              refine qA 36 51 (tf 49 137438953471) ?_
              refine qA 37 52 (tf 49 274877906943) ?_
              refine qU 38 53 (tf 49 549755813887) ?_
              refine qU 39 54 (tf 49 1099511627775) ?_
              refine qU 40 55 (tf 49 2199023255551) ?_
              refine qU 41 56 (tf 49 4398046511103) ?_
              refine qA 42 57 (tf 49 8796093022207) ?_
              refine qA 43 58 (tf 49 17592186044415) ?_
              refine qU 44 59 (tf 49 35184372088831) ?_
              refine qU 45 60 (tf 49 70368744177663) ?_
              refine qU 46 61 (tf 49 140737488355327) ?_
              refine qU 47 62 (tf 49 281474976710655) ?_
              refine qA 48 63 (tf 49 562949953421311) ?_
              refine done_ (done_of HT_.out (by kernel_rfl)) ?_
              try go_wp2
              go_ret
              exact ⟨ze7, ze5⟩
             ·rw [if_neg c18] at H
              have c18b0 : decide (20 < (((rd_T55 l0 x10_1).f2).length : Int)) = false := decide_eq_false c18
              have c18b1 : decide (20 < ((rd_T55 l0 x10_1).f2).length) = false := decide_eq_false (by omega)
              clear c18
              replace H := Option.bind_eq_some_iff.mp H
              obtain ⟨t131, A230, H⟩ := H
              replace H : (if t131 = true then ((impl_namesUp.f k1 ((rd_T55 l0 x10_1).f2)).bind fun t132 => (if t132 = true then (if (((rd_T55 l0 x10_1).f3).size : Int) > 4000 then (some false) else (impl_UnitsOk.l0 k1 l0 l0 (l0.length : Int) (wrap64 (x10_1 + 1)))) else (some false))) else (some false)) = some r := H
              have A23 := Aside0.mk A230
              clear A230
              by_cases c24 : t131 = true
              ·subst c24
               have H1 : ((impl_namesUp.f k1 ((rd_T55 l0 x10_1).f2)).bind fun t132 => (if t132 = true then (if (((rd_T55 l0 x10_1).f3).size : Int) > 4000 then (some false) else (impl_UnitsOk.l0 k1 l0 l0 (l0.length : Int) (wrap64 (x10_1 + 1)))) else (some false))) = some r := by rw [if_pos rfl] at H; exact H
               clear H
               have H := H1
               clear H1
               replace H := Option.bind_eq_some_iff.mp H
               obtain ⟨t132, A250, H⟩ := H
               replace H : (if t132 = true then (if (((rd_T55 l0 x10_1).f3).size : Int) > 4000 then (some false) else (impl_UnitsOk.l0 k1 l0 l0 (l0.length : Int) (wrap64 (x10_1 + 1)))) else (some false)) = some r := H
               have A25 := Aside0.mk A250
               clear A250
               by_cases c26 : t132 = true
               ·subst c26
                have H1 : (if (((rd_T55 l0 x10_1).f3).size : Int) > 4000 then (some false) else (impl_UnitsOk.l0 k1 l0 l0 (l0.length : Int) (wrap64 (x10_1 + 1)))) = some r := by rw [if_pos rfl] at H; exact H
                clear H
                have H := H1
                clear H1
                by_cases c27 : (((rd_T55 l0 x10_1).f3).size : Int) > 4000
                ·rw [if_pos c27] at H
                 have c27b0 : decide (4000 < (((rd_T55 l0 x10_1).f3).size : Int)) = true := decide_eq_true c27
                 have c27b1 : decide (4000 < ((rd_T55 l0 x10_1).f3).size) = true := decide_eq_true (by omega)
                 clear c27
                 obtain rfl := Option.some.inj H
                 have p127 : 0 ≤ (x10_1 : Int) := of_decide_eq_true ze3
                 have q127 : x10_1 < (l0.length : Int) := of_decide_eq_true ze3
                 obtain ⟨ad127, A127_1, c127_1, A127_2, c127_2, e127, hx127_0, hx127_1, hx127_2, hx127_3, hx127_4, hl127_1, hi127_1, hl127_2, hi127_2⟩ := at_T55 HR0.out x10_1 p127 q127
                 cases e127
                 try (replace hx127_0 := (HB.out.cell (World.block_lt_of_cell? w _ hx127_0)).trans hx127_0)
                 try (replace hx127_1 := (HB.out.cell (World.block_lt_of_cell? w _ hx127_1)).trans hx127_1)
                 try (replace hx127_2 := (HB.out.cell (World.block_lt_of_cell? w _ hx127_2)).trans hx127_2)
                 try (replace hx127_3 := (HB.out.cell (World.block_lt_of_cell? w _ hx127_3)).trans hx127_3)
                 try (replace hx127_4 := (HB.out.cell (World.block_lt_of_cell? w _ hx127_4)).trans hx127_4)
                 have HR127_1 := Aside0.mk hi127_1
                 have HC127_1 := Aside0.mk hl127_1
                 clear hi127_1 hl127_1
                 have HR127_2 := Aside0.mk hi127_2
                 have HC127_2 := Aside0.mk hl127_2
                 clear hi127_2 hl127_2
                 replace p127 := eq_true p127
                 replace q127 := eq_true q127
                 try go_wp2_with (first | ((with_reducible refine gate_dst (N := 4) rfl ?_); (try (refine gate_guard (by rfl) ?_; dsimp only)); refine box_event ?hg (N := 4) ?hd (cs := #[.string (⟨#[]⟩ : ByteArray), .slice none 0 0, .slice none 0 0, .string (⟨#[]⟩ : ByteArray), .bool false]) (t := 55) ?hr ?_; (case hd => rfl); (case hg => rfl); (case hr => first | (go_simp; done) | (go_simp; rfl)); intro gb128 hg w28 hbox hb; have BK128 := Aside0.mk (hbox); have GW128 := Aside0.mk ((by rw [hg]; exact (below_size qB) : w.heap.size ≤ gb128)); have GE128 := Aside0.mk ((by rw [hg]; exact (below_size qB) : w.heap.size ≤ gb128)); replace HB := Aside0.mk (below_step qB hb); clear hb hbox hg; have hcz29_0 : w28.cell? ⟨gb128, 0, none⟩ = some (.string (⟨#[]⟩ : ByteArray)) := (blk_cell BK128.out 0).trans rfl; have hcz29_1 : w28.cell? ⟨gb128, 1, none⟩ = some (.slice none 0 0) := (blk_cell BK128.out 1).trans rfl; have hcz29_2 : w28.cell? ⟨gb128, 2, none⟩ = some (.slice none 0 0) := (blk_cell BK128.out 2).trans rfl; have hcz29_3 : w28.cell? ⟨gb128, 3, none⟩ = some (.string (⟨#[]⟩ : ByteArray)) := (blk_cell BK128.out 3).trans rfl; have hcz29_4 : w28.cell? ⟨gb128, 4, none⟩ = some (.bool false) := (blk_cell BK128.out 4).trans rfl; have hfz29_0 := blk_frozen BK128.out 0; have hfz29_1 := blk_frozen BK128.out 1; have hfz29_2 := blk_frozen BK128.out 2; have hfz29_3 := blk_frozen BK128.out 3; have hfz29_4 := blk_frozen BK128.out 4))
                 have n0_ : Aside0 ((((((w28.setCell ⟨gb128, 0, none⟩ (.string ((rd_T55 l0 x10_1).f0))).setCell ⟨gb128, 1, none⟩ (.slice A127_1 ((rd_T55 l0 x10_1).f1).length c127_1)).setCell ⟨gb128, 2, none⟩ (.slice A127_2 ((rd_T55 l0 x10_1).f2).length c127_2)).setCell ⟨gb128, 3, none⟩ (.string ((rd_T55 l0 x10_1).f3))).setCell ⟨gb128, 4, none⟩ (.bool ((rd_T55 l0 x10_1).f4))).heap[gb128]? = some (.cells #[.string ((rd_T55 l0 x10_1).f0), .slice A127_1 ((rd_T55 l0 x10_1).f1).length c127_1, .slice A127_2 ((rd_T55 l0 x10_1).f2).length c127_2, .string ((rd_T55 l0 x10_1).f3), .bool ((rd_T55 l0 x10_1).f4)] 55 (0, 0))) := ⟨ze4⟩
                 have n1_ : Aside0 (Below w.heap.size w (((((w28.setCell ⟨gb128, 0, none⟩ (.string ((rd_T55 l0 x10_1).f0))).setCell ⟨gb128, 1, none⟩ (.slice A127_1 ((rd_T55 l0 x10_1).f1).length c127_1)).setCell ⟨gb128, 2, none⟩ (.slice A127_2 ((rd_T55 l0 x10_1).f2).length c127_2)).setCell ⟨gb128, 3, none⟩ (.string ((rd_T55 l0 x10_1).f3))).setCell ⟨gb128, 4, none⟩ (.bool ((rd_T55 l0 x10_1).f4)))) := ⟨ze5⟩
                 (try clear BK128)
                 (try clear HB)
                 generalize (((((w28.setCell ⟨gb128, 0, none⟩ (.string ((rd_T55 l0 x10_1).f0))).setCell ⟨gb128, 1, none⟩ (.slice A127_1 ((rd_T55 l0 x10_1).f1).length c127_1)).setCell ⟨gb128, 2, none⟩ (.slice A127_2 ((rd_T55 l0 x10_1).f2).length c127_2)).setCell ⟨gb128, 3, none⟩ (.string ((rd_T55 l0 x10_1).f3))).setCell ⟨gb128, 4, none⟩ (.bool ((rd_T55 l0 x10_1).f4))) = w30 at n0_ n1_ ⊢
                 have BK128 := n0_
                 have HB := n1_
                 clear n0_ n1_
                 replace BK128 := Aside0.mk (blk_drew BK128.out)
                 replace HB := Aside0.mk (below_drew1 HB.out)
                 have p130 : 0 ≤ ((ji9) : Int) := of_decide_eq_true ze3
                 have q130 : (ji9) < (l0.length : Int) := of_decide_eq_true ze3
                 obtain ⟨ad130, A130_1, c130_1, A130_2, c130_2, e130, hx130_0, hx130_1, hx130_2, hx130_3, hx130_4, hl130_1, hi130_1, hl130_2, hi130_2⟩ := at_T55 HR0.out (ji9) p130 q130
                 have hw130_4 := hx130_4
                 have hw130_3 := hx130_3
                 have hw130_2 := hx130_2
                 have hw130_1 := hx130_1
                 have hw130_0 := hx130_0
                 obtain rfl : ad127 = ad130 := (by injection e130)
                 try (replace hx130_0 := (HB.out.cell (World.block_lt_of_cell? w _ hx130_0)).trans hx130_0)
                 try (replace hx130_1 := (HB.out.cell (World.block_lt_of_cell? w _ hx130_1)).trans hx130_1)
                 try (replace hx130_2 := (HB.out.cell (World.block_lt_of_cell? w _ hx130_2)).trans hx130_2)
                 try (replace hx130_3 := (HB.out.cell (World.block_lt_of_cell? w _ hx130_3)).trans hx130_3)
                 try (replace hx130_4 := (HB.out.cell (World.block_lt_of_cell? w _ hx130_4)).trans hx130_4)
                 have HR130_1 := Aside0.mk hi130_1
                 have HC130_1 := Aside0.mk hl130_1
                 clear hi130_1 hl130_1
                 have HR130_2 := Aside0.mk hi130_2
                 have HC130_2 := Aside0.mk hl130_2
                 clear hi130_2 hl130_2
                 replace p130 := eq_true p130
                 replace q130 := eq_true q130
                 refine start_ (n := 49) (S := fun w' => w'.cell? ⟨gb128, 0, none⟩ = some (.string ((rd_T55 l0 x10_1).f0)) ∧ w'.cell? ⟨gb128, 1, none⟩ = some (.slice A127_1 ((rd_T55 l0 x10_1).f1).length c127_1) ∧ w'.cell? ⟨gb128, 2, none⟩ = some (.slice A127_2 ((rd_T55 l0 x10_1).f2).length c127_2) ∧ w'.cell? ⟨gb128, 3, none⟩ = some (.string ((rd_T55 l0 x10_1).f3)) ∧ w'.cell? ⟨gb128, 4, none⟩ = some (.bool ((rd_T55 l0 x10_1).f4)) ∧ w'.cell? (ad127.add (((ji9)).toNat * 5)) = some (.string ((rd_T55 l0 (ji9)).f0)) ∧ w'.cell? ⟨(ad127.add (((ji9)).toNat * 5)).block, (ad127.add (((ji9)).toNat * 5)).off + 1, none⟩ = some (.slice A130_1 ((rd_T55 l0 (ji9)).f1).length c130_1) ∧ w'.cell? ⟨(ad127.add (((ji9)).toNat * 5)).block, (ad127.add (((ji9)).toNat * 5)).off + 2, none⟩ = some (.slice A130_2 ((rd_T55 l0 (ji9)).f2).length c130_2) ∧ w'.cell? ⟨(ad127.add (((ji9)).toNat * 5)).block, (ad127.add (((ji9)).toNat * 5)).off + 3, none⟩ = some (.string ((rd_T55 l0 (ji9)).f3)) ∧ w'.cell? ⟨(ad127.add (((ji9)).toNat * 5)).block, (ad127.add (((ji9)).toNat * 5)).off + 4, none⟩ = some (.bool ((rd_T55 l0 (ji9)).f4))) (ds := []) (tf 49 0) (by kernel_rfl) rfl rfl ⟨(blk_cell BK128.out 0).trans rfl, (blk_cell BK128.out 1).trans rfl, (blk_cell BK128.out 2).trans rfl, (blk_cell BK128.out 3).trans rfl, (blk_cell BK128.out 4).trans rfl, ((HB.out.cell (World.block_lt_of_cell? w _ hw130_0)).trans hw130_0), ((HB.out.cell (World.block_lt_of_cell? w _ hw130_1)).trans hw130_1), ((HB.out.cell (World.block_lt_of_cell? w _ hw130_2)).trans hw130_2), ((HB.out.cell (World.block_lt_of_cell? w _ hw130_3)).trans hw130_3), ((HB.out.cell (World.block_lt_of_cell? w _ hw130_4)).trans hw130_4)⟩ (fun hHeld => ?_); refine with_tabW impl_UnitsOk.tab6 impl_UnitsOk.bits6 (fun HT_ HW_ => ?_)
                 generalize w30.drew = w31 at BK128 HB HR130_1 HR130_2 hx130_0 hx130_1 hx130_2 hx130_3 hx130_4 hHeld ⊢
                 refine qA 0 15 (tf 49 1) ?_
                 refine qT 1 16 (tf 49 3) ?_
                 refine one_ (i := 2) (N := some 17) (tf 49 7) rfl rfl (one_of HT_.out (by kernel_rfl)) (by decide) (fun K hK => ?_)
                 refine goes_ Try.func51 (by kernel_rfl) rfl #[.string ((rd_T55 l0 x10_1).f0)] (by rfl) rfl rfl ze6 ?_
                 with_reducible refine (impl_NameOk.calls k1 ((rd_T55 l0 x10_1).f0) true _ A6.out).mono ?_
                 rintro e w' ⟨rfl, ⟨nd, rfl⟩⟩
                 refine ⟨_, rfl, ?_⟩
                 refine hK.out _ _ ⟨(blk_cell BK128.out 0).trans rfl, (blk_cell BK128.out 1).trans rfl, (blk_cell BK128.out 2).trans rfl, (blk_cell BK128.out 3).trans rfl, (blk_cell BK128.out 4).trans rfl, ((HB.out.cell (World.block_lt_of_cell? w _ hw130_0)).trans hw130_0), ((HB.out.cell (World.block_lt_of_cell? w _ hw130_1)).trans hw130_1), ((HB.out.cell (World.block_lt_of_cell? w _ hw130_2)).trans hw130_2), ((HB.out.cell (World.block_lt_of_cell? w _ hw130_3)).trans hw130_3), ((HB.out.cell (World.block_lt_of_cell? w _ hw130_4)).trans hw130_4)⟩ (fun hHeld => ?_)
                 clear hK K
                 refine norm_ (a' := ?_) ?_ ?_
                 rotate_left
                 ·show Act.put _ (some 17) _ = _
                  simp only [Act.put, sT, s0, sS, i64_w, i32_w]
                  rfl
                 refine qA 3 18 (tf 49 15) ?_
                 refine qA 4 19 (tf 49 31) ?_
                 refine qA 5 20 (tf 49 63) ?_
                 refine qA 6 21 (tf 49 127) ?_
                 refine qA 7 22 (tf 49 255) ?_
                 refine qA 8 23 (tf 49 511) ?_
                 refine qA 9 24 (tf 49 1023) ?_
                 refine qA 10 25 (tf 49 2047) ?_
                 refine qA 11 26 (tf 49 4095) ?_
                 refine qA 12 27 (tf 49 8191) ?_
                 refine qA 14 29 (tf 49 24575) ?_
                 refine qT 13 28 (tf 49 32767) ?_
                 refine qT 15 30 (tf 49 65535) ?_
                 refine qA 16 31 (tf 49 131071) ?_
                 refine qA 17 32 (tf 49 262143) ?_
                 refine qA 18 33 (tf 49 524287) ?_
                 refine qA 19 34 (tf 49 1048575) ?_
                 refine qA 20 35 (tf 49 2097151) ?_
                 refine qT 21 36 (tf 49 4194303) ?_
                 refine qA 22 37 (tf 49 8388607) ?_
                 refine qA 23 38 (tf 49 16777215) ?_
                 refine qA 24 39 (tf 49 33554431) ?_
                 refine qA 25 40 (tf 49 67108863) ?_
                 refine qA 26 41 (tf 49 134217727) ?_
                 refine qT 27 42 (tf 49 268435455) ?_
                 refine qA 28 43 (tf 49 536870911) ?_
                 refine qA 29 44 (tf 49 1073741823) ?_
                 refine qA 30 45 (tf 49 2147483647) ?_
                 refine qA 31 46 (tf 49 4294967295) ?_
                 refine qA 32 47 (tf 49 8589934591) ?_
                 refine qT 33 48 (tf 49 17179869183) ?_
                 refine one_ (i := 34) (N := some 49) (tf 49 34359738367) rfl rfl (one_of HT_.out (by kernel_rfl)) (by decide) (fun K hK => ?_)
                 refine goes_ Try.func52 (by kernel_rfl) rfl #[.slice A127_1 ((rd_T55 l0 x10_1).f1).length c127_1] (by rfl) rfl rfl ze6 ?_
                 with_reducible refine (impl_namesUp.calls k1 _ _ ((rd_T55 l0 x10_1).f1) true _ ?side1 ?side2 A23.out).mono ?_
                 (case side1 => exact ze8 HR127_1.out)
                 (case side2 => exact HC127_1.out)
                 rintro e w' ⟨rfl, ⟨nd, rfl⟩⟩
                 refine ⟨_, rfl, ?_⟩
                 refine hK.out _ _ ⟨(blk_cell BK128.out 0).trans rfl, (blk_cell BK128.out 1).trans rfl, (blk_cell BK128.out 2).trans rfl, (blk_cell BK128.out 3).trans rfl, (blk_cell BK128.out 4).trans rfl, ((HB.out.cell (World.block_lt_of_cell? w _ hw130_0)).trans hw130_0), ((HB.out.cell (World.block_lt_of_cell? w _ hw130_1)).trans hw130_1), ((HB.out.cell (World.block_lt_of_cell? w _ hw130_2)).trans hw130_2), ((HB.out.cell (World.block_lt_of_cell? w _ hw130_3)).trans hw130_3), ((HB.out.cell (World.block_lt_of_cell? w _ hw130_4)).trans hw130_4)⟩ (fun hHeld => ?_)
                 clear hK K
                 refine norm_ (a' := ?_) ?_ ?_
                 rotate_left
                 ·show Act.put _ (some 49) _ = _
                  simp only [Act.put, sT, s0, sS, i64_w, i32_w]
                  rfl
                 refine qA 35 50 (tf 49 68719476735) ?_
                 refine qA 36 51 (tf 49 137438953471) ?_
                 refine qA 37 52 (tf 49 274877906943) ?_
                 refine qA 38 53 (tf 49 549755813887) ?_
                 refine qT 39 54 (tf 49 1099511627775) ?_
                 refine one_ (i := 40) (N := some 55) (tf 49 2199023255551) rfl rfl (one_of HT_.out (by kernel_rfl)) (by decide) (fun K hK => ?_)
                 refine goes_ Try.func52 (by kernel_rfl) rfl #[.slice A127_2 ((rd_T55 l0 x10_1).f2).length c127_2] (by rfl) rfl rfl ze6 ?_
                 with_reducible refine (impl_namesUp.calls k1 _ _ ((rd_T55 l0 x10_1).f2) true _ ?side1 ?side2 A25.out).mono ?_
                 (case side1 => exact ze8 HR127_2.out)
                 (case side2 => exact HC127_2.out)
                 rintro e w' ⟨rfl, ⟨nd, rfl⟩⟩
                 refine ⟨_, rfl, ?_⟩
                 refine hK.out _ _ ⟨(blk_cell BK128.out 0).trans rfl, (blk_cell BK128.out 1).trans rfl, (blk_cell BK128.out 2).trans rfl, (blk_cell BK128.out 3).trans rfl, (blk_cell BK128.out 4).trans rfl, ((HB.out.cell (World.block_lt_of_cell? w _ hw130_0)).trans hw130_0), ((HB.out.cell (World.block_lt_of_cell? w _ hw130_1)).trans hw130_1), ((HB.out.cell (World.block_lt_of_cell? w _ hw130_2)).trans hw130_2), ((HB.out.cell (World.block_lt_of_cell? w _ hw130_3)).trans hw130_3), ((HB.out.cell (World.block_lt_of_cell? w _ hw130_4)).trans hw130_4)⟩ (fun hHeld => ?_)
                 clear hK K
                 refine norm_ (a' := ?_) ?_ ?_
                 rotate_left
                 ·show Act.put _ (some 55) _ = _
                  simp only [Act.put, sT, s0, sS, i64_w, i32_w]
                  rfl
                 refine qA 41 56 (tf 49 4398046511103) ?_
                 refine qA 42 57 (tf 49 8796093022207) ?_
                 refine qA 43 58 (tf 49 17592186044415) ?_
                 refine qA 44 59 (tf 49 35184372088831) ?_
                 refine qT 45 60 (tf 49 70368744177663) ?_
                 refine qA 46 61 (tf 49 140737488355327) ?_
                 refine qA 47 62 (tf 49 281474976710655) ?_
                 refine qA 48 63 (tf 49 562949953421311) ?_
                 refine done_ (done_of HT_.out (by kernel_rfl)) ?_
                 try go_wp2
                 go_ret
                 exact ⟨ze7, ze5⟩
                ·rw [if_neg c27] at H
                 have c27b0 : decide (4000 < (((rd_T55 l0 x10_1).f3).size : Int)) = false := decide_eq_false c27
                 have c27b1 : decide (4000 < ((rd_T55 l0 x10_1).f3).size) = false := decide_eq_false (by omega)
                 clear c27
                 have H' := Aside0.mk H
                 clear H
                 have p127 : 0 ≤ (x10_1 : Int) := of_decide_eq_true ze3
                 have q127 : x10_1 < (l0.length : Int) := of_decide_eq_true ze3
                 obtain ⟨ad127, A127_1, c127_1, A127_2, c127_2, e127, hx127_0, hx127_1, hx127_2, hx127_3, hx127_4, hl127_1, hi127_1, hl127_2, hi127_2⟩ := at_T55 HR0.out x10_1 p127 q127
                 cases e127
                 try (replace hx127_0 := (HB.out.cell (World.block_lt_of_cell? w _ hx127_0)).trans hx127_0)
                 try (replace hx127_1 := (HB.out.cell (World.block_lt_of_cell? w _ hx127_1)).trans hx127_1)
                 try (replace hx127_2 := (HB.out.cell (World.block_lt_of_cell? w _ hx127_2)).trans hx127_2)
                 try (replace hx127_3 := (HB.out.cell (World.block_lt_of_cell? w _ hx127_3)).trans hx127_3)
                 try (replace hx127_4 := (HB.out.cell (World.block_lt_of_cell? w _ hx127_4)).trans hx127_4)
                 have HR127_1 := Aside0.mk hi127_1
                 have HC127_1 := Aside0.mk hl127_1
                 clear hi127_1 hl127_1
                 have HR127_2 := Aside0.mk hi127_2
                 have HC127_2 := Aside0.mk hl127_2
                 clear hi127_2 hl127_2
                 replace p127 := eq_true p127
                 replace q127 := eq_true q127
                 try go_wp2_with (first | ((with_reducible refine gate_dst (N := 4) rfl ?_); (try (refine gate_guard (by rfl) ?_; dsimp only)); refine box_event ?hg (N := 4) ?hd (cs := #[.string (⟨#[]⟩ : ByteArray), .slice none 0 0, .slice none 0 0, .string (⟨#[]⟩ : ByteArray), .bool false]) (t := 55) ?hr ?_; (case hd => rfl); (case hg => rfl); (case hr => first | (go_simp; done) | (go_simp; rfl)); intro gb128 hg w32 hbox hb; have BK128 := Aside0.mk (hbox); have GW128 := Aside0.mk ((by rw [hg]; exact (below_size qB) : w.heap.size ≤ gb128)); have GE128 := Aside0.mk ((by rw [hg]; exact (below_size qB) : w.heap.size ≤ gb128)); replace HB := Aside0.mk (below_step qB hb); clear hb hbox hg; have hcz33_0 : w32.cell? ⟨gb128, 0, none⟩ = some (.string (⟨#[]⟩ : ByteArray)) := (blk_cell BK128.out 0).trans rfl; have hcz33_1 : w32.cell? ⟨gb128, 1, none⟩ = some (.slice none 0 0) := (blk_cell BK128.out 1).trans rfl; have hcz33_2 : w32.cell? ⟨gb128, 2, none⟩ = some (.slice none 0 0) := (blk_cell BK128.out 2).trans rfl; have hcz33_3 : w32.cell? ⟨gb128, 3, none⟩ = some (.string (⟨#[]⟩ : ByteArray)) := (blk_cell BK128.out 3).trans rfl; have hcz33_4 : w32.cell? ⟨gb128, 4, none⟩ = some (.bool false) := (blk_cell BK128.out 4).trans rfl; have hfz33_0 := blk_frozen BK128.out 0; have hfz33_1 := blk_frozen BK128.out 1; have hfz33_2 := blk_frozen BK128.out 2; have hfz33_3 := blk_frozen BK128.out 3; have hfz33_4 := blk_frozen BK128.out 4))
                 have n0_ : Aside0 ((((((w32.setCell ⟨gb128, 0, none⟩ (.string ((rd_T55 l0 x10_1).f0))).setCell ⟨gb128, 1, none⟩ (.slice A127_1 ((rd_T55 l0 x10_1).f1).length c127_1)).setCell ⟨gb128, 2, none⟩ (.slice A127_2 ((rd_T55 l0 x10_1).f2).length c127_2)).setCell ⟨gb128, 3, none⟩ (.string ((rd_T55 l0 x10_1).f3))).setCell ⟨gb128, 4, none⟩ (.bool ((rd_T55 l0 x10_1).f4))).heap[gb128]? = some (.cells #[.string ((rd_T55 l0 x10_1).f0), .slice A127_1 ((rd_T55 l0 x10_1).f1).length c127_1, .slice A127_2 ((rd_T55 l0 x10_1).f2).length c127_2, .string ((rd_T55 l0 x10_1).f3), .bool ((rd_T55 l0 x10_1).f4)] 55 (0, 0))) := ⟨ze4⟩
                 have n1_ : Aside0 (Below w.heap.size w (((((w32.setCell ⟨gb128, 0, none⟩ (.string ((rd_T55 l0 x10_1).f0))).setCell ⟨gb128, 1, none⟩ (.slice A127_1 ((rd_T55 l0 x10_1).f1).length c127_1)).setCell ⟨gb128, 2, none⟩ (.slice A127_2 ((rd_T55 l0 x10_1).f2).length c127_2)).setCell ⟨gb128, 3, none⟩ (.string ((rd_T55 l0 x10_1).f3))).setCell ⟨gb128, 4, none⟩ (.bool ((rd_T55 l0 x10_1).f4)))) := ⟨ze5⟩
                 (try clear BK128)
                 (try clear HB)
                 generalize (((((w32.setCell ⟨gb128, 0, none⟩ (.string ((rd_T55 l0 x10_1).f0))).setCell ⟨gb128, 1, none⟩ (.slice A127_1 ((rd_T55 l0 x10_1).f1).length c127_1)).setCell ⟨gb128, 2, none⟩ (.slice A127_2 ((rd_T55 l0 x10_1).f2).length c127_2)).setCell ⟨gb128, 3, none⟩ (.string ((rd_T55 l0 x10_1).f3))).setCell ⟨gb128, 4, none⟩ (.bool ((rd_T55 l0 x10_1).f4))) = w34 at n0_ n1_ ⊢
                 have BK128 := n0_
                 have HB := n1_
                 clear n0_ n1_
                 replace BK128 := Aside0.mk (blk_drew BK128.out)
                 replace HB := Aside0.mk (below_drew1 HB.out)
                 have p130 : 0 ≤ ((ji9) : Int) := of_decide_eq_true ze3
                 have q130 : (ji9) < (l0.length : Int) := of_decide_eq_true ze3
                 obtain ⟨ad130, A130_1, c130_1, A130_2, c130_2, e130, hx130_0, hx130_1, hx130_2, hx130_3, hx130_4, hl130_1, hi130_1, hl130_2, hi130_2⟩ := at_T55 HR0.out (ji9) p130 q130
                 have hw130_4 := hx130_4
                 have hw130_3 := hx130_3
                 have hw130_2 := hx130_2
                 have hw130_1 := hx130_1
                 have hw130_0 := hx130_0
                 obtain rfl : ad127 = ad130 := (by injection e130)
                 try (replace hx130_0 := (HB.out.cell (World.block_lt_of_cell? w _ hx130_0)).trans hx130_0)
                 try (replace hx130_1 := (HB.out.cell (World.block_lt_of_cell? w _ hx130_1)).trans hx130_1)
                 try (replace hx130_2 := (HB.out.cell (World.block_lt_of_cell? w _ hx130_2)).trans hx130_2)
                 try (replace hx130_3 := (HB.out.cell (World.block_lt_of_cell? w _ hx130_3)).trans hx130_3)
                 try (replace hx130_4 := (HB.out.cell (World.block_lt_of_cell? w _ hx130_4)).trans hx130_4)
                 have HR130_1 := Aside0.mk hi130_1
                 have HC130_1 := Aside0.mk hl130_1
                 clear hi130_1 hl130_1
                 have HR130_2 := Aside0.mk hi130_2
                 have HC130_2 := Aside0.mk hl130_2
                 clear hi130_2 hl130_2
                 replace p130 := eq_true p130
                 replace q130 := eq_true q130
                 refine start_ (n := 49) (S := fun w' => w'.cell? ⟨gb128, 0, none⟩ = some (.string ((rd_T55 l0 x10_1).f0)) ∧ w'.cell? ⟨gb128, 1, none⟩ = some (.slice A127_1 ((rd_T55 l0 x10_1).f1).length c127_1) ∧ w'.cell? ⟨gb128, 2, none⟩ = some (.slice A127_2 ((rd_T55 l0 x10_1).f2).length c127_2) ∧ w'.cell? ⟨gb128, 3, none⟩ = some (.string ((rd_T55 l0 x10_1).f3)) ∧ w'.cell? ⟨gb128, 4, none⟩ = some (.bool ((rd_T55 l0 x10_1).f4)) ∧ w'.cell? (ad127.add (((ji9)).toNat * 5)) = some (.string ((rd_T55 l0 (ji9)).f0)) ∧ w'.cell? ⟨(ad127.add (((ji9)).toNat * 5)).block, (ad127.add (((ji9)).toNat * 5)).off + 1, none⟩ = some (.slice A130_1 ((rd_T55 l0 (ji9)).f1).length c130_1) ∧ w'.cell? ⟨(ad127.add (((ji9)).toNat * 5)).block, (ad127.add (((ji9)).toNat * 5)).off + 2, none⟩ = some (.slice A130_2 ((rd_T55 l0 (ji9)).f2).length c130_2) ∧ w'.cell? ⟨(ad127.add (((ji9)).toNat * 5)).block, (ad127.add (((ji9)).toNat * 5)).off + 3, none⟩ = some (.string ((rd_T55 l0 (ji9)).f3)) ∧ w'.cell? ⟨(ad127.add (((ji9)).toNat * 5)).block, (ad127.add (((ji9)).toNat * 5)).off + 4, none⟩ = some (.bool ((rd_T55 l0 (ji9)).f4))) (ds := []) (tf 49 0) (by kernel_rfl) rfl rfl ⟨(blk_cell BK128.out 0).trans rfl, (blk_cell BK128.out 1).trans rfl, (blk_cell BK128.out 2).trans rfl, (blk_cell BK128.out 3).trans rfl, (blk_cell BK128.out 4).trans rfl, ((HB.out.cell (World.block_lt_of_cell? w _ hw130_0)).trans hw130_0), ((HB.out.cell (World.block_lt_of_cell? w _ hw130_1)).trans hw130_1), ((HB.out.cell (World.block_lt_of_cell? w _ hw130_2)).trans hw130_2), ((HB.out.cell (World.block_lt_of_cell? w _ hw130_3)).trans hw130_3), ((HB.out.cell (World.block_lt_of_cell? w _ hw130_4)).trans hw130_4)⟩ (fun hHeld => ?_); refine with_tabW impl_UnitsOk.tab6 impl_UnitsOk.bits6 (fun HT_ HW_ => ?_)
                 generalize w34.drew = w35 at BK128 HB HR130_1 HR130_2 hx130_0 hx130_1 hx130_2 hx130_3 hx130_4 hHeld ⊢
                 refine qA 0 15 (tf 49 1) ?_
                 refine qT 1 16 (tf 49 3) ?_
                 refine one_ (i := 2) (N := some 17) (tf 49 7) rfl rfl (one_of HT_.out (by kernel_rfl)) (by decide) (fun K hK => ?_)
                 refine goes_ Try.func51 (by kernel_rfl) rfl #[.string ((rd_T55 l0 x10_1).f0)] (by rfl) rfl rfl ze6 ?_
                 with_reducible refine (impl_NameOk.calls k1 ((rd_T55 l0 x10_1).f0) true _ A6.out).mono ?_
                 rintro e w' ⟨rfl, ⟨nd, rfl⟩⟩
                 refine ⟨_, rfl, ?_⟩
                 refine hK.out _ _ ⟨(blk_cell BK128.out 0).trans rfl, (blk_cell BK128.out 1).trans rfl, (blk_cell BK128.out 2).trans rfl, (blk_cell BK128.out 3).trans rfl, (blk_cell BK128.out 4).trans rfl, ((HB.out.cell (World.block_lt_of_cell? w _ hw130_0)).trans hw130_0), ((HB.out.cell (World.block_lt_of_cell? w _ hw130_1)).trans hw130_1), ((HB.out.cell (World.block_lt_of_cell? w _ hw130_2)).trans hw130_2), ((HB.out.cell (World.block_lt_of_cell? w _ hw130_3)).trans hw130_3), ((HB.out.cell (World.block_lt_of_cell? w _ hw130_4)).trans hw130_4)⟩ (fun hHeld => ?_)
                 clear hK K
                 refine norm_ (a' := ?_) ?_ ?_
                 rotate_left
                 ·show Act.put _ (some 17) _ = _
                  simp only [Act.put, sT, s0, sS, i64_w, i32_w]
                  rfl
                 refine qA 3 18 (tf 49 15) ?_
                 refine qA 4 19 (tf 49 31) ?_
                 refine qA 5 20 (tf 49 63) ?_
                 refine qA 6 21 (tf 49 127) ?_
                 refine qA 7 22 (tf 49 255) ?_
                 refine qA 8 23 (tf 49 511) ?_
                 refine qA 9 24 (tf 49 1023) ?_
                 refine qA 10 25 (tf 49 2047) ?_
                 refine qA 11 26 (tf 49 4095) ?_
                 refine qA 12 27 (tf 49 8191) ?_
                 refine qA 14 29 (tf 49 24575) ?_
                 refine qT 13 28 (tf 49 32767) ?_
                 refine qT 15 30 (tf 49 65535) ?_
                 refine qA 16 31 (tf 49 131071) ?_
                 refine qA 17 32 (tf 49 262143) ?_
                 refine qA 18 33 (tf 49 524287) ?_
                 refine qA 19 34 (tf 49 1048575) ?_
                 refine qA 20 35 (tf 49 2097151) ?_
                 refine qT 21 36 (tf 49 4194303) ?_
                 refine qA 22 37 (tf 49 8388607) ?_
                 refine qA 23 38 (tf 49 16777215) ?_
                 refine qA 24 39 (tf 49 33554431) ?_
                 refine qA 25 40 (tf 49 67108863) ?_
                 refine qA 26 41 (tf 49 134217727) ?_
                 refine qT 27 42 (tf 49 268435455) ?_
                 refine qA 28 43 (tf 49 536870911) ?_
                 refine qA 29 44 (tf 49 1073741823) ?_
                 refine qA 30 45 (tf 49 2147483647) ?_
                 refine qA 31 46 (tf 49 4294967295) ?_
                 refine qA 32 47 (tf 49 8589934591) ?_
                 refine qT 33 48 (tf 49 17179869183) ?_
                 refine one_ (i := 34) (N := some 49) (tf 49 34359738367) rfl rfl (one_of HT_.out (by kernel_rfl)) (by decide) (fun K hK => ?_)
                 refine goes_ Try.func52 (by kernel_rfl) rfl #[.slice A127_1 ((rd_T55 l0 x10_1).f1).length c127_1] (by rfl) rfl rfl ze6 ?_
                 with_reducible refine (impl_namesUp.calls k1 _ _ ((rd_T55 l0 x10_1).f1) true _ ?side1 ?side2 A23.out).mono ?_
                 (case side1 => exact ze8 HR127_1.out)
                 (case side2 => exact HC127_1.out)
                 rintro e w' ⟨rfl, ⟨nd, rfl⟩⟩
                 refine ⟨_, rfl, ?_⟩
                 refine hK.out _ _ ⟨(blk_cell BK128.out 0).trans rfl, (blk_cell BK128.out 1).trans rfl, (blk_cell BK128.out 2).trans rfl, (blk_cell BK128.out 3).trans rfl, (blk_cell BK128.out 4).trans rfl, ((HB.out.cell (World.block_lt_of_cell? w _ hw130_0)).trans hw130_0), ((HB.out.cell (World.block_lt_of_cell? w _ hw130_1)).trans hw130_1), ((HB.out.cell (World.block_lt_of_cell? w _ hw130_2)).trans hw130_2), ((HB.out.cell (World.block_lt_of_cell? w _ hw130_3)).trans hw130_3), ((HB.out.cell (World.block_lt_of_cell? w _ hw130_4)).trans hw130_4)⟩ (fun hHeld => ?_)
                 clear hK K
                 refine norm_ (a' := ?_) ?_ ?_
                 rotate_left
                 ·show Act.put _ (some 49) _ = _
                  simp only [Act.put, sT, s0, sS, i64_w, i32_w]
                  rfl
                 refine qA 35 50 (tf 49 68719476735) ?_
                 refine qA 36 51 (tf 49 137438953471) ?_
                 refine qA 37 52 (tf 49 274877906943) ?_
                 refine qA 38 53 (tf 49 549755813887) ?_
                 refine qT 39 54 (tf 49 1099511627775) ?_
                 refine one_ (i := 40) (N := some 55) (tf 49 2199023255551) rfl rfl (one_of HT_.out (by kernel_rfl)) (by decide) (fun K hK => ?_)
                 refine goes_ Try.func52 (by kernel_rfl) rfl #[.slice A127_2 ((rd_T55 l0 x10_1).f2).length c127_2] (by rfl) rfl rfl ze6 ?_
                 with_reducible refine (impl_namesUp.calls k1 _ _ ((rd_T55 l0 x10_1).f2) true _ ?side1 ?side2 A25.out).mono ?_
                 (case side1 => exact ze8 HR127_2.out)
                 (case side2 => exact HC127_2.out)
                 rintro e w' ⟨rfl, ⟨nd, rfl⟩⟩
                 refine ⟨_, rfl, ?_⟩
                 refine hK.out _ _ ⟨(blk_cell BK128.out 0).trans rfl, (blk_cell BK128.out 1).trans rfl, (blk_cell BK128.out 2).trans rfl, (blk_cell BK128.out 3).trans rfl, (blk_cell BK128.out 4).trans rfl, ((HB.out.cell (World.block_lt_of_cell? w _ hw130_0)).trans hw130_0), ((HB.out.cell (World.block_lt_of_cell? w _ hw130_1)).trans hw130_1), ((HB.out.cell (World.block_lt_of_cell? w _ hw130_2)).trans hw130_2), ((HB.out.cell (World.block_lt_of_cell? w _ hw130_3)).trans hw130_3), ((HB.out.cell (World.block_lt_of_cell? w _ hw130_4)).trans hw130_4)⟩ (fun hHeld => ?_)
                 clear hK K
                 refine norm_ (a' := ?_) ?_ ?_
                 rotate_left
                 ·show Act.put _ (some 55) _ = _
                  simp only [Act.put, sT, s0, sS, i64_w, i32_w]
                  rfl
                 refine qA 41 56 (tf 49 4398046511103) ?_
                 refine qA 42 57 (tf 49 8796093022207) ?_
                 refine qA 43 58 (tf 49 17592186044415) ?_
                 refine qA 44 59 (tf 49 35184372088831) ?_
                 refine qT 45 60 (tf 49 70368744177663) ?_
                 refine qA 46 61 (tf 49 140737488355327) ?_
                 refine qA 47 62 (tf 49 281474976710655) ?_
                 refine qA 48 63 (tf 49 562949953421311) ?_
                 refine done_ (done_of HT_.out (by kernel_rfl)) ?_
                 try go_wp2
                 go_roundg k1
                 case measure => have := HK1.out; omega
                 case rel => exact ⟨(wrap64 (x10_1 + 1)), ze2, H', ⟨by have := HK1.out; omega⟩, ⟨ze5⟩⟩
               ·replace c26 := Bool.eq_false_iff.mpr c26
                subst c26
                have H1 : (some false) = some r := by rw [if_neg (show ¬ (false = true) by decide)] at H; exact H
                clear H
                have H := H1
                clear H1
                obtain rfl := Option.some.inj H
                have p127 : 0 ≤ (x10_1 : Int) := of_decide_eq_true ze3
                have q127 : x10_1 < (l0.length : Int) := of_decide_eq_true ze3
                obtain ⟨ad127, A127_1, c127_1, A127_2, c127_2, e127, hx127_0, hx127_1, hx127_2, hx127_3, hx127_4, hl127_1, hi127_1, hl127_2, hi127_2⟩ := at_T55 HR0.out x10_1 p127 q127
                cases e127
                try (replace hx127_0 := (HB.out.cell (World.block_lt_of_cell? w _ hx127_0)).trans hx127_0)
                try (replace hx127_1 := (HB.out.cell (World.block_lt_of_cell? w _ hx127_1)).trans hx127_1)
                try (replace hx127_2 := (HB.out.cell (World.block_lt_of_cell? w _ hx127_2)).trans hx127_2)
                try (replace hx127_3 := (HB.out.cell (World.block_lt_of_cell? w _ hx127_3)).trans hx127_3)
                try (replace hx127_4 := (HB.out.cell (World.block_lt_of_cell? w _ hx127_4)).trans hx127_4)
                have HR127_1 := Aside0.mk hi127_1
                have HC127_1 := Aside0.mk hl127_1
                clear hi127_1 hl127_1
                have HR127_2 := Aside0.mk hi127_2
                have HC127_2 := Aside0.mk hl127_2
                clear hi127_2 hl127_2
                replace p127 := eq_true p127
                replace q127 := eq_true q127
                try go_wp2_with (first | ((with_reducible refine gate_dst (N := 4) rfl ?_); (try (refine gate_guard (by rfl) ?_; dsimp only)); refine box_event ?hg (N := 4) ?hd (cs := #[.string (⟨#[]⟩ : ByteArray), .slice none 0 0, .slice none 0 0, .string (⟨#[]⟩ : ByteArray), .bool false]) (t := 55) ?hr ?_; (case hd => rfl); (case hg => rfl); (case hr => first | (go_simp; done) | (go_simp; rfl)); intro gb128 hg w36 hbox hb; have BK128 := Aside0.mk (hbox); have GW128 := Aside0.mk ((by rw [hg]; exact (below_size qB) : w.heap.size ≤ gb128)); have GE128 := Aside0.mk ((by rw [hg]; exact (below_size qB) : w.heap.size ≤ gb128)); replace HB := Aside0.mk (below_step qB hb); clear hb hbox hg; have hcz37_0 : w36.cell? ⟨gb128, 0, none⟩ = some (.string (⟨#[]⟩ : ByteArray)) := (blk_cell BK128.out 0).trans rfl; have hcz37_1 : w36.cell? ⟨gb128, 1, none⟩ = some (.slice none 0 0) := (blk_cell BK128.out 1).trans rfl; have hcz37_2 : w36.cell? ⟨gb128, 2, none⟩ = some (.slice none 0 0) := (blk_cell BK128.out 2).trans rfl; have hcz37_3 : w36.cell? ⟨gb128, 3, none⟩ = some (.string (⟨#[]⟩ : ByteArray)) := (blk_cell BK128.out 3).trans rfl; have hcz37_4 : w36.cell? ⟨gb128, 4, none⟩ = some (.bool false) := (blk_cell BK128.out 4).trans rfl; have hfz37_0 := blk_frozen BK128.out 0; have hfz37_1 := blk_frozen BK128.out 1; have hfz37_2 := blk_frozen BK128.out 2; have hfz37_3 := blk_frozen BK128.out 3; have hfz37_4 := blk_frozen BK128.out 4))
                have n0_ : Aside0 ((((((w36.setCell ⟨gb128, 0, none⟩ (.string ((rd_T55 l0 x10_1).f0))).setCell ⟨gb128, 1, none⟩ (.slice A127_1 ((rd_T55 l0 x10_1).f1).length c127_1)).setCell ⟨gb128, 2, none⟩ (.slice A127_2 ((rd_T55 l0 x10_1).f2).length c127_2)).setCell ⟨gb128, 3, none⟩ (.string ((rd_T55 l0 x10_1).f3))).setCell ⟨gb128, 4, none⟩ (.bool ((rd_T55 l0 x10_1).f4))).heap[gb128]? = some (.cells #[.string ((rd_T55 l0 x10_1).f0), .slice A127_1 ((rd_T55 l0 x10_1).f1).length c127_1, .slice A127_2 ((rd_T55 l0 x10_1).f2).length c127_2, .string ((rd_T55 l0 x10_1).f3), .bool ((rd_T55 l0 x10_1).f4)] 55 (0, 0))) := ⟨ze4⟩
                have n1_ : Aside0 (Below w.heap.size w (((((w36.setCell ⟨gb128, 0, none⟩ (.string ((rd_T55 l0 x10_1).f0))).setCell ⟨gb128, 1, none⟩ (.slice A127_1 ((rd_T55 l0 x10_1).f1).length c127_1)).setCell ⟨gb128, 2, none⟩ (.slice A127_2 ((rd_T55 l0 x10_1).f2).length c127_2)).setCell ⟨gb128, 3, none⟩ (.string ((rd_T55 l0 x10_1).f3))).setCell ⟨gb128, 4, none⟩ (.bool ((rd_T55 l0 x10_1).f4)))) := ⟨ze5⟩
                (try clear BK128)
                (try clear HB)
                generalize (((((w36.setCell ⟨gb128, 0, none⟩ (.string ((rd_T55 l0 x10_1).f0))).setCell ⟨gb128, 1, none⟩ (.slice A127_1 ((rd_T55 l0 x10_1).f1).length c127_1)).setCell ⟨gb128, 2, none⟩ (.slice A127_2 ((rd_T55 l0 x10_1).f2).length c127_2)).setCell ⟨gb128, 3, none⟩ (.string ((rd_T55 l0 x10_1).f3))).setCell ⟨gb128, 4, none⟩ (.bool ((rd_T55 l0 x10_1).f4))) = w38 at n0_ n1_ ⊢
                have BK128 := n0_
                have HB := n1_
                clear n0_ n1_
                replace BK128 := Aside0.mk (blk_drew BK128.out)
                replace HB := Aside0.mk (below_drew1 HB.out)
                have p130 : 0 ≤ ((ji9) : Int) := of_decide_eq_true ze3
                have q130 : (ji9) < (l0.length : Int) := of_decide_eq_true ze3
                obtain ⟨ad130, A130_1, c130_1, A130_2, c130_2, e130, hx130_0, hx130_1, hx130_2, hx130_3, hx130_4, hl130_1, hi130_1, hl130_2, hi130_2⟩ := at_T55 HR0.out (ji9) p130 q130
                have hw130_4 := hx130_4
                have hw130_3 := hx130_3
                have hw130_2 := hx130_2
                have hw130_1 := hx130_1
                have hw130_0 := hx130_0
                obtain rfl : ad127 = ad130 := (by injection e130)
                try (replace hx130_0 := (HB.out.cell (World.block_lt_of_cell? w _ hx130_0)).trans hx130_0)
                try (replace hx130_1 := (HB.out.cell (World.block_lt_of_cell? w _ hx130_1)).trans hx130_1)
                try (replace hx130_2 := (HB.out.cell (World.block_lt_of_cell? w _ hx130_2)).trans hx130_2)
                try (replace hx130_3 := (HB.out.cell (World.block_lt_of_cell? w _ hx130_3)).trans hx130_3)
                try (replace hx130_4 := (HB.out.cell (World.block_lt_of_cell? w _ hx130_4)).trans hx130_4)
                have HR130_1 := Aside0.mk hi130_1
                have HC130_1 := Aside0.mk hl130_1
                clear hi130_1 hl130_1
                have HR130_2 := Aside0.mk hi130_2
                have HC130_2 := Aside0.mk hl130_2
                clear hi130_2 hl130_2
                replace p130 := eq_true p130
                replace q130 := eq_true q130
                refine start_ (n := 49) (S := fun w' => w'.cell? ⟨gb128, 0, none⟩ = some (.string ((rd_T55 l0 x10_1).f0)) ∧ w'.cell? ⟨gb128, 1, none⟩ = some (.slice A127_1 ((rd_T55 l0 x10_1).f1).length c127_1) ∧ w'.cell? ⟨gb128, 2, none⟩ = some (.slice A127_2 ((rd_T55 l0 x10_1).f2).length c127_2) ∧ w'.cell? ⟨gb128, 3, none⟩ = some (.string ((rd_T55 l0 x10_1).f3)) ∧ w'.cell? ⟨gb128, 4, none⟩ = some (.bool ((rd_T55 l0 x10_1).f4)) ∧ w'.cell? (ad127.add (((ji9)).toNat * 5)) = some (.string ((rd_T55 l0 (ji9)).f0)) ∧ w'.cell? ⟨(ad127.add (((ji9)).toNat * 5)).block, (ad127.add (((ji9)).toNat * 5)).off + 1, none⟩ = some (.slice A130_1 ((rd_T55 l0 (ji9)).f1).length c130_1) ∧ w'.cell? ⟨(ad127.add (((ji9)).toNat * 5)).block, (ad127.add (((ji9)).toNat * 5)).off + 2, none⟩ = some (.slice A130_2 ((rd_T55 l0 (ji9)).f2).length c130_2) ∧ w'.cell? ⟨(ad127.add (((ji9)).toNat * 5)).block, (ad127.add (((ji9)).toNat * 5)).off + 3, none⟩ = some (.string ((rd_T55 l0 (ji9)).f3)) ∧ w'.cell? ⟨(ad127.add (((ji9)).toNat * 5)).block, (ad127.add (((ji9)).toNat * 5)).off + 4, none⟩ = some (.bool ((rd_T55 l0 (ji9)).f4))) (ds := []) (tf 49 0) (by kernel_rfl) rfl rfl ⟨(blk_cell BK128.out 0).trans rfl, (blk_cell BK128.out 1).trans rfl, (blk_cell BK128.out 2).trans rfl, (blk_cell BK128.out 3).trans rfl, (blk_cell BK128.out 4).trans rfl, ((HB.out.cell (World.block_lt_of_cell? w _ hw130_0)).trans hw130_0), ((HB.out.cell (World.block_lt_of_cell? w _ hw130_1)).trans hw130_1), ((HB.out.cell (World.block_lt_of_cell? w _ hw130_2)).trans hw130_2), ((HB.out.cell (World.block_lt_of_cell? w _ hw130_3)).trans hw130_3), ((HB.out.cell (World.block_lt_of_cell? w _ hw130_4)).trans hw130_4)⟩ (fun hHeld => ?_); refine with_tabW impl_UnitsOk.tab6 impl_UnitsOk.bits6 (fun HT_ HW_ => ?_)
                generalize w38.drew = w39 at BK128 HB HR130_1 HR130_2 hx130_0 hx130_1 hx130_2 hx130_3 hx130_4 hHeld ⊢
                refine qA 0 15 (tf 49 1) ?_
                refine qT 1 16 (tf 49 3) ?_
                refine one_ (i := 2) (N := some 17) (tf 49 7) rfl rfl (one_of HT_.out (by kernel_rfl)) (by decide) (fun K hK => ?_)
                refine goes_ Try.func51 (by kernel_rfl) rfl #[.string ((rd_T55 l0 x10_1).f0)] (by rfl) rfl rfl ze6 ?_
                with_reducible refine (impl_NameOk.calls k1 ((rd_T55 l0 x10_1).f0) true _ A6.out).mono ?_
                rintro e w' ⟨rfl, ⟨nd, rfl⟩⟩
                refine ⟨_, rfl, ?_⟩
                refine hK.out _ _ ⟨(blk_cell BK128.out 0).trans rfl, (blk_cell BK128.out 1).trans rfl, (blk_cell BK128.out 2).trans rfl, (blk_cell BK128.out 3).trans rfl, (blk_cell BK128.out 4).trans rfl, ((HB.out.cell (World.block_lt_of_cell? w _ hw130_0)).trans hw130_0), ((HB.out.cell (World.block_lt_of_cell? w _ hw130_1)).trans hw130_1), ((HB.out.cell (World.block_lt_of_cell? w _ hw130_2)).trans hw130_2), ((HB.out.cell (World.block_lt_of_cell? w _ hw130_3)).trans hw130_3), ((HB.out.cell (World.block_lt_of_cell? w _ hw130_4)).trans hw130_4)⟩ (fun hHeld => ?_)
                clear hK K
                refine norm_ (a' := ?_) ?_ ?_
                rotate_left
                ·show Act.put _ (some 17) _ = _
                 simp only [Act.put, sT, s0, sS, i64_w, i32_w]
                 rfl
                refine qA 3 18 (tf 49 15) ?_
                refine qA 4 19 (tf 49 31) ?_
                refine qA 5 20 (tf 49 63) ?_
                refine qA 6 21 (tf 49 127) ?_
                refine qA 7 22 (tf 49 255) ?_
                refine qA 8 23 (tf 49 511) ?_
                refine qA 9 24 (tf 49 1023) ?_
                refine qA 10 25 (tf 49 2047) ?_
                refine qA 11 26 (tf 49 4095) ?_
                refine qA 12 27 (tf 49 8191) ?_
                refine qA 14 29 (tf 49 24575) ?_
                refine qT 13 28 (tf 49 32767) ?_
                refine qT 15 30 (tf 49 65535) ?_
                refine qA 16 31 (tf 49 131071) ?_
                refine qA 17 32 (tf 49 262143) ?_
                refine qA 18 33 (tf 49 524287) ?_
                refine qA 19 34 (tf 49 1048575) ?_
                refine qA 20 35 (tf 49 2097151) ?_
                refine qT 21 36 (tf 49 4194303) ?_
                refine qA 22 37 (tf 49 8388607) ?_
                refine qA 23 38 (tf 49 16777215) ?_
                refine qA 24 39 (tf 49 33554431) ?_
                refine qA 25 40 (tf 49 67108863) ?_
                refine qA 26 41 (tf 49 134217727) ?_
                refine qT 27 42 (tf 49 268435455) ?_
                refine qA 28 43 (tf 49 536870911) ?_
                refine qA 29 44 (tf 49 1073741823) ?_
                refine qA 30 45 (tf 49 2147483647) ?_
                refine qA 31 46 (tf 49 4294967295) ?_
                refine qA 32 47 (tf 49 8589934591) ?_
                refine qT 33 48 (tf 49 17179869183) ?_
                refine one_ (i := 34) (N := some 49) (tf 49 34359738367) rfl rfl (one_of HT_.out (by kernel_rfl)) (by decide) (fun K hK => ?_)
                refine goes_ Try.func52 (by kernel_rfl) rfl #[.slice A127_1 ((rd_T55 l0 x10_1).f1).length c127_1] (by rfl) rfl rfl ze6 ?_
                with_reducible refine (impl_namesUp.calls k1 _ _ ((rd_T55 l0 x10_1).f1) true _ ?side1 ?side2 A23.out).mono ?_
                (case side1 => exact ze8 HR127_1.out)
                (case side2 => exact HC127_1.out)
                rintro e w' ⟨rfl, ⟨nd, rfl⟩⟩
                refine ⟨_, rfl, ?_⟩
                refine hK.out _ _ ⟨(blk_cell BK128.out 0).trans rfl, (blk_cell BK128.out 1).trans rfl, (blk_cell BK128.out 2).trans rfl, (blk_cell BK128.out 3).trans rfl, (blk_cell BK128.out 4).trans rfl, ((HB.out.cell (World.block_lt_of_cell? w _ hw130_0)).trans hw130_0), ((HB.out.cell (World.block_lt_of_cell? w _ hw130_1)).trans hw130_1), ((HB.out.cell (World.block_lt_of_cell? w _ hw130_2)).trans hw130_2), ((HB.out.cell (World.block_lt_of_cell? w _ hw130_3)).trans hw130_3), ((HB.out.cell (World.block_lt_of_cell? w _ hw130_4)).trans hw130_4)⟩ (fun hHeld => ?_)
                clear hK K
                refine norm_ (a' := ?_) ?_ ?_
                rotate_left
                ·show Act.put _ (some 49) _ = _
                 simp only [Act.put, sT, s0, sS, i64_w, i32_w]
                 rfl
                refine qA 35 50 (tf 49 68719476735) ?_
                refine qA 36 51 (tf 49 137438953471) ?_
                refine qA 37 52 (tf 49 274877906943) ?_
                refine qA 38 53 (tf 49 549755813887) ?_
                refine qT 39 54 (tf 49 1099511627775) ?_
                refine one_ (i := 40) (N := some 55) (tf 49 2199023255551) rfl rfl (one_of HT_.out (by kernel_rfl)) (by decide) (fun K hK => ?_)
                refine goes_ Try.func52 (by kernel_rfl) rfl #[.slice A127_2 ((rd_T55 l0 x10_1).f2).length c127_2] (by rfl) rfl rfl ze6 ?_
                with_reducible refine (impl_namesUp.calls k1 _ _ ((rd_T55 l0 x10_1).f2) false _ ?side1 ?side2 A25.out).mono ?_
                (case side1 => exact ze8 HR127_2.out)
                (case side2 => exact HC127_2.out)
                rintro e w' ⟨rfl, ⟨nd, rfl⟩⟩
                refine ⟨_, rfl, ?_⟩
                refine hK.out _ _ ⟨(blk_cell BK128.out 0).trans rfl, (blk_cell BK128.out 1).trans rfl, (blk_cell BK128.out 2).trans rfl, (blk_cell BK128.out 3).trans rfl, (blk_cell BK128.out 4).trans rfl, ((HB.out.cell (World.block_lt_of_cell? w _ hw130_0)).trans hw130_0), ((HB.out.cell (World.block_lt_of_cell? w _ hw130_1)).trans hw130_1), ((HB.out.cell (World.block_lt_of_cell? w _ hw130_2)).trans hw130_2), ((HB.out.cell (World.block_lt_of_cell? w _ hw130_3)).trans hw130_3), ((HB.out.cell (World.block_lt_of_cell? w _ hw130_4)).trans hw130_4)⟩ (fun hHeld => ?_)
                clear hK K
                refine norm_ (a' := ?_) ?_ ?_
                rotate_left
                ·show Act.put _ (some 55) _ = _
                 simp only [Act.put, sT, s0, sS, i64_w, i32_w]
                 rfl
                refine qA 41 56 (tf 49 4398046511103) ?_
                refine qA 42 57 (tf 49 8796093022207) ?_
                refine qA 43 58 (tf 49 17592186044415) ?_
                refine qU 44 59 (tf 49 35184372088831) ?_
                refine qU 45 60 (tf 49 70368744177663) ?_
                refine qU 46 61 (tf 49 140737488355327) ?_
                refine qU 47 62 (tf 49 281474976710655) ?_
                refine qA 48 63 (tf 49 562949953421311) ?_
                refine done_ (done_of HT_.out (by kernel_rfl)) ?_
                try go_wp2
                go_ret
                exact ⟨ze7, ze5⟩
              ·replace c24 := Bool.eq_false_iff.mpr c24
               subst c24
               have H1 : (some false) = some r := by rw [if_neg (show ¬ (false = true) by decide)] at H; exact H
               clear H
               have H := H1
               clear H1
               obtain rfl := Option.some.inj H
               have p127 : 0 ≤ (x10_1 : Int) := of_decide_eq_true ze3
               have q127 : x10_1 < (l0.length : Int) := of_decide_eq_true ze3
               obtain ⟨ad127, A127_1, c127_1, A127_2, c127_2, e127, hx127_0, hx127_1, hx127_2, hx127_3, hx127_4, hl127_1, hi127_1, hl127_2, hi127_2⟩ := at_T55 HR0.out x10_1 p127 q127
               cases e127
               try (replace hx127_0 := (HB.out.cell (World.block_lt_of_cell? w _ hx127_0)).trans hx127_0)
               try (replace hx127_1 := (HB.out.cell (World.block_lt_of_cell? w _ hx127_1)).trans hx127_1)
               try (replace hx127_2 := (HB.out.cell (World.block_lt_of_cell? w _ hx127_2)).trans hx127_2)
               try (replace hx127_3 := (HB.out.cell (World.block_lt_of_cell? w _ hx127_3)).trans hx127_3)
               try (replace hx127_4 := (HB.out.cell (World.block_lt_of_cell? w _ hx127_4)).trans hx127_4)
               have HR127_1 := Aside0.mk hi127_1
               have HC127_1 := Aside0.mk hl127_1
               clear hi127_1 hl127_1
               have HR127_2 := Aside0.mk hi127_2
               have HC127_2 := Aside0.mk hl127_2
               clear hi127_2 hl127_2
               replace p127 := eq_true p127
               replace q127 := eq_true q127
               try go_wp2_with (first | ((with_reducible refine gate_dst (N := 4) rfl ?_); (try (refine gate_guard (by rfl) ?_; dsimp only)); refine box_event ?hg (N := 4) ?hd (cs := #[.string (⟨#[]⟩ : ByteArray), .slice none 0 0, .slice none 0 0, .string (⟨#[]⟩ : ByteArray), .bool false]) (t := 55) ?hr ?_; (case hd => rfl); (case hg => rfl); (case hr => first | (go_simp; done) | (go_simp; rfl)); intro gb128 hg w40 hbox hb; have BK128 := Aside0.mk (hbox); have GW128 := Aside0.mk ((by rw [hg]; exact (below_size qB) : w.heap.size ≤ gb128)); have GE128 := Aside0.mk ((by rw [hg]; exact (below_size qB) : w.heap.size ≤ gb128)); replace HB := Aside0.mk (below_step qB hb); clear hb hbox hg; have hcz41_0 : w40.cell? ⟨gb128, 0, none⟩ = some (.string (⟨#[]⟩ : ByteArray)) := (blk_cell BK128.out 0).trans rfl; have hcz41_1 : w40.cell? ⟨gb128, 1, none⟩ = some (.slice none 0 0) := (blk_cell BK128.out 1).trans rfl; have hcz41_2 : w40.cell? ⟨gb128, 2, none⟩ = some (.slice none 0 0) := (blk_cell BK128.out 2).trans rfl; have hcz41_3 : w40.cell? ⟨gb128, 3, none⟩ = some (.string (⟨#[]⟩ : ByteArray)) := (blk_cell BK128.out 3).trans rfl; have hcz41_4 : w40.cell? ⟨gb128, 4, none⟩ = some (.bool false) := (blk_cell BK128.out 4).trans rfl; have hfz41_0 := blk_frozen BK128.out 0; have hfz41_1 := blk_frozen BK128.out 1; have hfz41_2 := blk_frozen BK128.out 2; have hfz41_3 := blk_frozen BK128.out 3; have hfz41_4 := blk_frozen BK128.out 4))
               have n0_ : Aside0 ((((((w40.setCell ⟨gb128, 0, none⟩ (.string ((rd_T55 l0 x10_1).f0))).setCell ⟨gb128, 1, none⟩ (.slice A127_1 ((rd_T55 l0 x10_1).f1).length c127_1)).setCell ⟨gb128, 2, none⟩ (.slice A127_2 ((rd_T55 l0 x10_1).f2).length c127_2)).setCell ⟨gb128, 3, none⟩ (.string ((rd_T55 l0 x10_1).f3))).setCell ⟨gb128, 4, none⟩ (.bool ((rd_T55 l0 x10_1).f4))).heap[gb128]? = some (.cells #[.string ((rd_T55 l0 x10_1).f0), .slice A127_1 ((rd_T55 l0 x10_1).f1).length c127_1, .slice A127_2 ((rd_T55 l0 x10_1).f2).length c127_2, .string ((rd_T55 l0 x10_1).f3), .bool ((rd_T55 l0 x10_1).f4)] 55 (0, 0))) := ⟨ze4⟩
               have n1_ : Aside0 (Below w.heap.size w (((((w40.setCell ⟨gb128, 0, none⟩ (.string ((rd_T55 l0 x10_1).f0))).setCell ⟨gb128, 1, none⟩ (.slice A127_1 ((rd_T55 l0 x10_1).f1).length c127_1)).setCell ⟨gb128, 2, none⟩ (.slice A127_2 ((rd_T55 l0 x10_1).f2).length c127_2)).setCell ⟨gb128, 3, none⟩ (.string ((rd_T55 l0 x10_1).f3))).setCell ⟨gb128, 4, none⟩ (.bool ((rd_T55 l0 x10_1).f4)))) := ⟨ze5⟩
               (try clear BK128)
               (try clear HB)
               generalize (((((w40.setCell ⟨gb128, 0, none⟩ (.string ((rd_T55 l0 x10_1).f0))).setCell ⟨gb128, 1, none⟩ (.slice A127_1 ((rd_T55 l0 x10_1).f1).length c127_1)).setCell ⟨gb128, 2, none⟩ (.slice A127_2 ((rd_T55 l0 x10_1).f2).length c127_2)).setCell ⟨gb128, 3, none⟩ (.string ((rd_T55 l0 x10_1).f3))).setCell ⟨gb128, 4, none⟩ (.bool ((rd_T55 l0 x10_1).f4))) = w42 at n0_ n1_ ⊢
               have BK128 := n0_
               have HB := n1_
               clear n0_ n1_
               replace BK128 := Aside0.mk (blk_drew BK128.out)
               replace HB := Aside0.mk (below_drew1 HB.out)
               have p130 : 0 ≤ ((ji9) : Int) := of_decide_eq_true ze3
               have q130 : (ji9) < (l0.length : Int) := of_decide_eq_true ze3
               obtain ⟨ad130, A130_1, c130_1, A130_2, c130_2, e130, hx130_0, hx130_1, hx130_2, hx130_3, hx130_4, hl130_1, hi130_1, hl130_2, hi130_2⟩ := at_T55 HR0.out (ji9) p130 q130
               have hw130_4 := hx130_4
               have hw130_3 := hx130_3
               have hw130_2 := hx130_2
               have hw130_1 := hx130_1
               have hw130_0 := hx130_0
               obtain rfl : ad127 = ad130 := (by injection e130)
               try (replace hx130_0 := (HB.out.cell (World.block_lt_of_cell? w _ hx130_0)).trans hx130_0)
               try (replace hx130_1 := (HB.out.cell (World.block_lt_of_cell? w _ hx130_1)).trans hx130_1)
               try (replace hx130_2 := (HB.out.cell (World.block_lt_of_cell? w _ hx130_2)).trans hx130_2)
               try (replace hx130_3 := (HB.out.cell (World.block_lt_of_cell? w _ hx130_3)).trans hx130_3)
               try (replace hx130_4 := (HB.out.cell (World.block_lt_of_cell? w _ hx130_4)).trans hx130_4)
               have HR130_1 := Aside0.mk hi130_1
               have HC130_1 := Aside0.mk hl130_1
               clear hi130_1 hl130_1
               have HR130_2 := Aside0.mk hi130_2
               have HC130_2 := Aside0.mk hl130_2
               clear hi130_2 hl130_2
               replace p130 := eq_true p130
               replace q130 := eq_true q130
               refine start_ (n := 49) (S := fun w' => w'.cell? ⟨gb128, 0, none⟩ = some (.string ((rd_T55 l0 x10_1).f0)) ∧ w'.cell? ⟨gb128, 1, none⟩ = some (.slice A127_1 ((rd_T55 l0 x10_1).f1).length c127_1) ∧ w'.cell? ⟨gb128, 2, none⟩ = some (.slice A127_2 ((rd_T55 l0 x10_1).f2).length c127_2) ∧ w'.cell? ⟨gb128, 3, none⟩ = some (.string ((rd_T55 l0 x10_1).f3)) ∧ w'.cell? ⟨gb128, 4, none⟩ = some (.bool ((rd_T55 l0 x10_1).f4)) ∧ w'.cell? (ad127.add (((ji9)).toNat * 5)) = some (.string ((rd_T55 l0 (ji9)).f0)) ∧ w'.cell? ⟨(ad127.add (((ji9)).toNat * 5)).block, (ad127.add (((ji9)).toNat * 5)).off + 1, none⟩ = some (.slice A130_1 ((rd_T55 l0 (ji9)).f1).length c130_1) ∧ w'.cell? ⟨(ad127.add (((ji9)).toNat * 5)).block, (ad127.add (((ji9)).toNat * 5)).off + 2, none⟩ = some (.slice A130_2 ((rd_T55 l0 (ji9)).f2).length c130_2) ∧ w'.cell? ⟨(ad127.add (((ji9)).toNat * 5)).block, (ad127.add (((ji9)).toNat * 5)).off + 3, none⟩ = some (.string ((rd_T55 l0 (ji9)).f3)) ∧ w'.cell? ⟨(ad127.add (((ji9)).toNat * 5)).block, (ad127.add (((ji9)).toNat * 5)).off + 4, none⟩ = some (.bool ((rd_T55 l0 (ji9)).f4))) (ds := []) (tf 49 0) (by kernel_rfl) rfl rfl ⟨(blk_cell BK128.out 0).trans rfl, (blk_cell BK128.out 1).trans rfl, (blk_cell BK128.out 2).trans rfl, (blk_cell BK128.out 3).trans rfl, (blk_cell BK128.out 4).trans rfl, ((HB.out.cell (World.block_lt_of_cell? w _ hw130_0)).trans hw130_0), ((HB.out.cell (World.block_lt_of_cell? w _ hw130_1)).trans hw130_1), ((HB.out.cell (World.block_lt_of_cell? w _ hw130_2)).trans hw130_2), ((HB.out.cell (World.block_lt_of_cell? w _ hw130_3)).trans hw130_3), ((HB.out.cell (World.block_lt_of_cell? w _ hw130_4)).trans hw130_4)⟩ (fun hHeld => ?_); refine with_tabW impl_UnitsOk.tab6 impl_UnitsOk.bits6 (fun HT_ HW_ => ?_)
               generalize w42.drew = w43 at BK128 HB HR130_1 HR130_2 hx130_0 hx130_1 hx130_2 hx130_3 hx130_4 hHeld ⊢
               refine qA 0 15 (tf 49 1) ?_
               refine qT 1 16 (tf 49 3) ?_
               refine one_ (i := 2) (N := some 17) (tf 49 7) rfl rfl (one_of HT_.out (by kernel_rfl)) (by decide) (fun K hK => ?_)
               refine goes_ Try.func51 (by kernel_rfl) rfl #[.string ((rd_T55 l0 x10_1).f0)] (by rfl) rfl rfl ze6 ?_
               with_reducible refine (impl_NameOk.calls k1 ((rd_T55 l0 x10_1).f0) true _ A6.out).mono ?_
               rintro e w' ⟨rfl, ⟨nd, rfl⟩⟩
               refine ⟨_, rfl, ?_⟩
               refine hK.out _ _ ⟨(blk_cell BK128.out 0).trans rfl, (blk_cell BK128.out 1).trans rfl, (blk_cell BK128.out 2).trans rfl, (blk_cell BK128.out 3).trans rfl, (blk_cell BK128.out 4).trans rfl, ((HB.out.cell (World.block_lt_of_cell? w _ hw130_0)).trans hw130_0), ((HB.out.cell (World.block_lt_of_cell? w _ hw130_1)).trans hw130_1), ((HB.out.cell (World.block_lt_of_cell? w _ hw130_2)).trans hw130_2), ((HB.out.cell (World.block_lt_of_cell? w _ hw130_3)).trans hw130_3), ((HB.out.cell (World.block_lt_of_cell? w _ hw130_4)).trans hw130_4)⟩ (fun hHeld => ?_)
               clear hK K
               refine norm_ (a' := ?_) ?_ ?_
               rotate_left
               ·show Act.put _ (some 17) _ = _
                simp only [Act.put, sT, s0, sS, i64_w, i32_w]
                rfl
               refine qA 3 18 (tf 49 15) ?_
               refine qA 4 19 (tf 49 31) ?_
               refine qA 5 20 (tf 49 63) ?_
               refine qA 6 21 (tf 49 127) ?_
               refine qA 7 22 (tf 49 255) ?_
               refine qA 8 23 (tf 49 511) ?_
               refine qA 9 24 (tf 49 1023) ?_
               refine qA 10 25 (tf 49 2047) ?_
               refine qA 11 26 (tf 49 4095) ?_
               refine qA 12 27 (tf 49 8191) ?_
               refine qA 14 29 (tf 49 24575) ?_
               refine qT 13 28 (tf 49 32767) ?_
               refine qT 15 30 (tf 49 65535) ?_
               refine qA 16 31 (tf 49 131071) ?_
               refine qA 17 32 (tf 49 262143) ?_
               refine qA 18 33 (tf 49 524287) ?_
               refine qA 19 34 (tf 49 1048575) ?_
               refine qA 20 35 (tf 49 2097151) ?_
               refine qT 21 36 (tf 49 4194303) ?_
               refine qA 22 37 (tf 49 8388607) ?_
               refine qA 23 38 (tf 49 16777215) ?_
               refine qA 24 39 (tf 49 33554431) ?_
               refine qA 25 40 (tf 49 67108863) ?_
               refine qA 26 41 (tf 49 134217727) ?_
               refine qT 27 42 (tf 49 268435455) ?_
               refine qA 28 43 (tf 49 536870911) ?_
               refine qA 29 44 (tf 49 1073741823) ?_
               refine qA 30 45 (tf 49 2147483647) ?_
               refine qA 31 46 (tf 49 4294967295) ?_
               refine qA 32 47 (tf 49 8589934591) ?_
               refine qT 33 48 (tf 49 17179869183) ?_
               refine one_ (i := 34) (N := some 49) (tf 49 34359738367) rfl rfl (one_of HT_.out (by kernel_rfl)) (by decide) (fun K hK => ?_)
               refine goes_ Try.func52 (by kernel_rfl) rfl #[.slice A127_1 ((rd_T55 l0 x10_1).f1).length c127_1] (by rfl) rfl rfl ze6 ?_
               with_reducible refine (impl_namesUp.calls k1 _ _ ((rd_T55 l0 x10_1).f1) false _ ?side1 ?side2 A23.out).mono ?_
               (case side1 => exact ze8 HR127_1.out)
               (case side2 => exact HC127_1.out)
               rintro e w' ⟨rfl, ⟨nd, rfl⟩⟩
               refine ⟨_, rfl, ?_⟩
               refine hK.out _ _ ⟨(blk_cell BK128.out 0).trans rfl, (blk_cell BK128.out 1).trans rfl, (blk_cell BK128.out 2).trans rfl, (blk_cell BK128.out 3).trans rfl, (blk_cell BK128.out 4).trans rfl, ((HB.out.cell (World.block_lt_of_cell? w _ hw130_0)).trans hw130_0), ((HB.out.cell (World.block_lt_of_cell? w _ hw130_1)).trans hw130_1), ((HB.out.cell (World.block_lt_of_cell? w _ hw130_2)).trans hw130_2), ((HB.out.cell (World.block_lt_of_cell? w _ hw130_3)).trans hw130_3), ((HB.out.cell (World.block_lt_of_cell? w _ hw130_4)).trans hw130_4)⟩ (fun hHeld => ?_)
               clear hK K
               refine norm_ (a' := ?_) ?_ ?_
               rotate_left
               ·show Act.put _ (some 49) _ = _
                simp only [Act.put, sT, s0, sS, i64_w, i32_w]
                rfl
               refine qA 35 50 (tf 49 68719476735) ?_
               refine qA 36 51 (tf 49 137438953471) ?_
               refine qA 37 52 (tf 49 274877906943) ?_
               refine qU 38 53 (tf 49 549755813887) ?_
               refine qU 39 54 (tf 49 1099511627775) ?_
               refine qU 40 55 (tf 49 2199023255551) ?_
               refine qU 41 56 (tf 49 4398046511103) ?_
               refine qA 42 57 (tf 49 8796093022207) ?_
               refine qA 43 58 (tf 49 17592186044415) ?_
               refine qU 44 59 (tf 49 35184372088831) ?_
               refine qU 45 60 (tf 49 70368744177663) ?_
               refine qU 46 61 (tf 49 140737488355327) ?_
               refine qU 47 62 (tf 49 281474976710655) ?_
               refine qA 48 63 (tf 49 562949953421311) ?_
               refine done_ (done_of HT_.out (by kernel_rfl)) ?_
               try go_wp2
               go_ret
               exact ⟨ze7, ze5⟩
           ·rw [if_neg c12] at H
            have c12b0 : (Op.bytesLess (((rd_T55 l0 (ji9)).f0).toList) (((rd_T55 l0 x10_1).f0).toList)) = false := by simpa using c12
            clear c12
            obtain rfl := Option.some.inj H
            have p127 : 0 ≤ (x10_1 : Int) := of_decide_eq_true ze3
            have q127 : x10_1 < (l0.length : Int) := of_decide_eq_true ze3
            obtain ⟨ad127, A127_1, c127_1, A127_2, c127_2, e127, hx127_0, hx127_1, hx127_2, hx127_3, hx127_4, hl127_1, hi127_1, hl127_2, hi127_2⟩ := at_T55 HR0.out x10_1 p127 q127
            cases e127
            try (replace hx127_0 := (HB.out.cell (World.block_lt_of_cell? w _ hx127_0)).trans hx127_0)
            try (replace hx127_1 := (HB.out.cell (World.block_lt_of_cell? w _ hx127_1)).trans hx127_1)
            try (replace hx127_2 := (HB.out.cell (World.block_lt_of_cell? w _ hx127_2)).trans hx127_2)
            try (replace hx127_3 := (HB.out.cell (World.block_lt_of_cell? w _ hx127_3)).trans hx127_3)
            try (replace hx127_4 := (HB.out.cell (World.block_lt_of_cell? w _ hx127_4)).trans hx127_4)
            have HR127_1 := Aside0.mk hi127_1
            have HC127_1 := Aside0.mk hl127_1
            clear hi127_1 hl127_1
            have HR127_2 := Aside0.mk hi127_2
            have HC127_2 := Aside0.mk hl127_2
            clear hi127_2 hl127_2
            replace p127 := eq_true p127
            replace q127 := eq_true q127
            try go_wp2_with (first | ((with_reducible refine gate_dst (N := 4) rfl ?_); (try (refine gate_guard (by rfl) ?_; dsimp only)); refine box_event ?hg (N := 4) ?hd (cs := #[.string (⟨#[]⟩ : ByteArray), .slice none 0 0, .slice none 0 0, .string (⟨#[]⟩ : ByteArray), .bool false]) (t := 55) ?hr ?_; (case hd => rfl); (case hg => rfl); (case hr => first | (go_simp; done) | (go_simp; rfl)); intro gb128 hg w44 hbox hb; have BK128 := Aside0.mk (hbox); have GW128 := Aside0.mk ((by rw [hg]; exact (below_size qB) : w.heap.size ≤ gb128)); have GE128 := Aside0.mk ((by rw [hg]; exact (below_size qB) : w.heap.size ≤ gb128)); replace HB := Aside0.mk (below_step qB hb); clear hb hbox hg; have hcz45_0 : w44.cell? ⟨gb128, 0, none⟩ = some (.string (⟨#[]⟩ : ByteArray)) := (blk_cell BK128.out 0).trans rfl; have hcz45_1 : w44.cell? ⟨gb128, 1, none⟩ = some (.slice none 0 0) := (blk_cell BK128.out 1).trans rfl; have hcz45_2 : w44.cell? ⟨gb128, 2, none⟩ = some (.slice none 0 0) := (blk_cell BK128.out 2).trans rfl; have hcz45_3 : w44.cell? ⟨gb128, 3, none⟩ = some (.string (⟨#[]⟩ : ByteArray)) := (blk_cell BK128.out 3).trans rfl; have hcz45_4 : w44.cell? ⟨gb128, 4, none⟩ = some (.bool false) := (blk_cell BK128.out 4).trans rfl; have hfz45_0 := blk_frozen BK128.out 0; have hfz45_1 := blk_frozen BK128.out 1; have hfz45_2 := blk_frozen BK128.out 2; have hfz45_3 := blk_frozen BK128.out 3; have hfz45_4 := blk_frozen BK128.out 4))
            have n0_ : Aside0 ((((((w44.setCell ⟨gb128, 0, none⟩ (.string ((rd_T55 l0 x10_1).f0))).setCell ⟨gb128, 1, none⟩ (.slice A127_1 ((rd_T55 l0 x10_1).f1).length c127_1)).setCell ⟨gb128, 2, none⟩ (.slice A127_2 ((rd_T55 l0 x10_1).f2).length c127_2)).setCell ⟨gb128, 3, none⟩ (.string ((rd_T55 l0 x10_1).f3))).setCell ⟨gb128, 4, none⟩ (.bool ((rd_T55 l0 x10_1).f4))).heap[gb128]? = some (.cells #[.string ((rd_T55 l0 x10_1).f0), .slice A127_1 ((rd_T55 l0 x10_1).f1).length c127_1, .slice A127_2 ((rd_T55 l0 x10_1).f2).length c127_2, .string ((rd_T55 l0 x10_1).f3), .bool ((rd_T55 l0 x10_1).f4)] 55 (0, 0))) := ⟨ze4⟩
            have n1_ : Aside0 (Below w.heap.size w (((((w44.setCell ⟨gb128, 0, none⟩ (.string ((rd_T55 l0 x10_1).f0))).setCell ⟨gb128, 1, none⟩ (.slice A127_1 ((rd_T55 l0 x10_1).f1).length c127_1)).setCell ⟨gb128, 2, none⟩ (.slice A127_2 ((rd_T55 l0 x10_1).f2).length c127_2)).setCell ⟨gb128, 3, none⟩ (.string ((rd_T55 l0 x10_1).f3))).setCell ⟨gb128, 4, none⟩ (.bool ((rd_T55 l0 x10_1).f4)))) := ⟨ze5⟩
            (try clear BK128)
            (try clear HB)
            generalize (((((w44.setCell ⟨gb128, 0, none⟩ (.string ((rd_T55 l0 x10_1).f0))).setCell ⟨gb128, 1, none⟩ (.slice A127_1 ((rd_T55 l0 x10_1).f1).length c127_1)).setCell ⟨gb128, 2, none⟩ (.slice A127_2 ((rd_T55 l0 x10_1).f2).length c127_2)).setCell ⟨gb128, 3, none⟩ (.string ((rd_T55 l0 x10_1).f3))).setCell ⟨gb128, 4, none⟩ (.bool ((rd_T55 l0 x10_1).f4))) = w46 at n0_ n1_ ⊢
            have BK128 := n0_
            have HB := n1_
            clear n0_ n1_
            replace BK128 := Aside0.mk (blk_drew BK128.out)
            replace HB := Aside0.mk (below_drew1 HB.out)
            have p130 : 0 ≤ ((ji9) : Int) := of_decide_eq_true ze3
            have q130 : (ji9) < (l0.length : Int) := of_decide_eq_true ze3
            obtain ⟨ad130, A130_1, c130_1, A130_2, c130_2, e130, hx130_0, hx130_1, hx130_2, hx130_3, hx130_4, hl130_1, hi130_1, hl130_2, hi130_2⟩ := at_T55 HR0.out (ji9) p130 q130
            have hw130_4 := hx130_4
            have hw130_3 := hx130_3
            have hw130_2 := hx130_2
            have hw130_1 := hx130_1
            have hw130_0 := hx130_0
            obtain rfl : ad127 = ad130 := (by injection e130)
            try (replace hx130_0 := (HB.out.cell (World.block_lt_of_cell? w _ hx130_0)).trans hx130_0)
            try (replace hx130_1 := (HB.out.cell (World.block_lt_of_cell? w _ hx130_1)).trans hx130_1)
            try (replace hx130_2 := (HB.out.cell (World.block_lt_of_cell? w _ hx130_2)).trans hx130_2)
            try (replace hx130_3 := (HB.out.cell (World.block_lt_of_cell? w _ hx130_3)).trans hx130_3)
            try (replace hx130_4 := (HB.out.cell (World.block_lt_of_cell? w _ hx130_4)).trans hx130_4)
            have HR130_1 := Aside0.mk hi130_1
            have HC130_1 := Aside0.mk hl130_1
            clear hi130_1 hl130_1
            have HR130_2 := Aside0.mk hi130_2
            have HC130_2 := Aside0.mk hl130_2
            clear hi130_2 hl130_2
            replace p130 := eq_true p130
            replace q130 := eq_true q130
            refine start_ (n := 49) (S := fun w' => w'.cell? ⟨gb128, 0, none⟩ = some (.string ((rd_T55 l0 x10_1).f0)) ∧ w'.cell? ⟨gb128, 1, none⟩ = some (.slice A127_1 ((rd_T55 l0 x10_1).f1).length c127_1) ∧ w'.cell? ⟨gb128, 2, none⟩ = some (.slice A127_2 ((rd_T55 l0 x10_1).f2).length c127_2) ∧ w'.cell? ⟨gb128, 3, none⟩ = some (.string ((rd_T55 l0 x10_1).f3)) ∧ w'.cell? ⟨gb128, 4, none⟩ = some (.bool ((rd_T55 l0 x10_1).f4)) ∧ w'.cell? (ad127.add (((ji9)).toNat * 5)) = some (.string ((rd_T55 l0 (ji9)).f0)) ∧ w'.cell? ⟨(ad127.add (((ji9)).toNat * 5)).block, (ad127.add (((ji9)).toNat * 5)).off + 1, none⟩ = some (.slice A130_1 ((rd_T55 l0 (ji9)).f1).length c130_1) ∧ w'.cell? ⟨(ad127.add (((ji9)).toNat * 5)).block, (ad127.add (((ji9)).toNat * 5)).off + 2, none⟩ = some (.slice A130_2 ((rd_T55 l0 (ji9)).f2).length c130_2) ∧ w'.cell? ⟨(ad127.add (((ji9)).toNat * 5)).block, (ad127.add (((ji9)).toNat * 5)).off + 3, none⟩ = some (.string ((rd_T55 l0 (ji9)).f3)) ∧ w'.cell? ⟨(ad127.add (((ji9)).toNat * 5)).block, (ad127.add (((ji9)).toNat * 5)).off + 4, none⟩ = some (.bool ((rd_T55 l0 (ji9)).f4))) (ds := []) (tf 49 0) (by kernel_rfl) rfl rfl ⟨(blk_cell BK128.out 0).trans rfl, (blk_cell BK128.out 1).trans rfl, (blk_cell BK128.out 2).trans rfl, (blk_cell BK128.out 3).trans rfl, (blk_cell BK128.out 4).trans rfl, ((HB.out.cell (World.block_lt_of_cell? w _ hw130_0)).trans hw130_0), ((HB.out.cell (World.block_lt_of_cell? w _ hw130_1)).trans hw130_1), ((HB.out.cell (World.block_lt_of_cell? w _ hw130_2)).trans hw130_2), ((HB.out.cell (World.block_lt_of_cell? w _ hw130_3)).trans hw130_3), ((HB.out.cell (World.block_lt_of_cell? w _ hw130_4)).trans hw130_4)⟩ (fun hHeld => ?_); refine with_tabW impl_UnitsOk.tab6 impl_UnitsOk.bits6 (fun HT_ HW_ => ?_)
            generalize w46.drew = w47 at BK128 HB HR130_1 HR130_2 hx130_0 hx130_1 hx130_2 hx130_3 hx130_4 hHeld ⊢
            refine qA 0 15 (tf 49 1) ?_
            refine qT 1 16 (tf 49 3) ?_
            refine one_ (i := 2) (N := some 17) (tf 49 7) rfl rfl (one_of HT_.out (by kernel_rfl)) (by decide) (fun K hK => ?_)
            refine goes_ Try.func51 (by kernel_rfl) rfl #[.string ((rd_T55 l0 x10_1).f0)] (by rfl) rfl rfl ze6 ?_
            with_reducible refine (impl_NameOk.calls k1 ((rd_T55 l0 x10_1).f0) true _ A6.out).mono ?_
            rintro e w' ⟨rfl, ⟨nd, rfl⟩⟩
            refine ⟨_, rfl, ?_⟩
            refine hK.out _ _ ⟨(blk_cell BK128.out 0).trans rfl, (blk_cell BK128.out 1).trans rfl, (blk_cell BK128.out 2).trans rfl, (blk_cell BK128.out 3).trans rfl, (blk_cell BK128.out 4).trans rfl, ((HB.out.cell (World.block_lt_of_cell? w _ hw130_0)).trans hw130_0), ((HB.out.cell (World.block_lt_of_cell? w _ hw130_1)).trans hw130_1), ((HB.out.cell (World.block_lt_of_cell? w _ hw130_2)).trans hw130_2), ((HB.out.cell (World.block_lt_of_cell? w _ hw130_3)).trans hw130_3), ((HB.out.cell (World.block_lt_of_cell? w _ hw130_4)).trans hw130_4)⟩ (fun hHeld => ?_)
            clear hK K
            refine norm_ (a' := ?_) ?_ ?_
            rotate_left
            ·show Act.put _ (some 17) _ = _
             simp only [Act.put, sT, s0, sS, i64_w, i32_w]
             rfl
            refine qA 3 18 (tf 49 15) ?_
            refine qA 4 19 (tf 49 31) ?_
            refine qA 5 20 (tf 49 63) ?_
            refine qA 6 21 (tf 49 127) ?_
            refine qA 7 22 (tf 49 255) ?_
            refine qA 8 23 (tf 49 511) ?_
            refine qA 9 24 (tf 49 1023) ?_
            refine qA 10 25 (tf 49 2047) ?_
            refine qA 11 26 (tf 49 4095) ?_
            refine qA 12 27 (tf 49 8191) ?_
            refine qA 14 29 (tf 49 24575) ?_
            refine qT 13 28 (tf 49 32767) ?_
            refine qT 15 30 (tf 49 65535) ?_
            refine qA 16 31 (tf 49 131071) ?_
            refine qA 17 32 (tf 49 262143) ?_
            refine qA 18 33 (tf 49 524287) ?_
            refine qA 19 34 (tf 49 1048575) ?_
            refine qU 20 35 (tf 49 2097151) ?_
            refine qU 21 36 (tf 49 4194303) ?_
            refine qU 22 37 (tf 49 8388607) ?_
            refine qU 23 38 (tf 49 16777215) ?_
            refine qA 24 39 (tf 49 33554431) ?_
            refine qA 25 40 (tf 49 67108863) ?_
            refine qU 26 41 (tf 49 134217727) ?_
            refine qU 27 42 (tf 49 268435455) ?_
            refine qU 28 43 (tf 49 536870911) ?_
            refine qU 29 44 (tf 49 1073741823) ?_
            refine qA 30 45 (tf 49 2147483647) ?_
            refine qA 31 46 (tf 49 4294967295) ?_
            refine qU 32 47 (tf 49 8589934591) ?_
            refine qU 33 48 (tf 49 17179869183) ?_
            refine qU 34 49 (tf 49 34359738367) ?_
            refine qU 35 50 (tf 49 68719476735) ?_
            refine qA 36 51 (tf 49 137438953471) ?_
            refine qA 37 52 (tf 49 274877906943) ?_
            refine qU 38 53 (tf 49 549755813887) ?_
            refine qU 39 54 (tf 49 1099511627775) ?_
            refine qU 40 55 (tf 49 2199023255551) ?_
            refine qU 41 56 (tf 49 4398046511103) ?_
            refine qA 42 57 (tf 49 8796093022207) ?_
            refine qA 43 58 (tf 49 17592186044415) ?_
            refine qU 44 59 (tf 49 35184372088831) ?_
            refine qU 45 60 (tf 49 70368744177663) ?_
            refine qU 46 61 (tf 49 140737488355327) ?_
            refine qU 47 62 (tf 49 281474976710655) ?_
            refine qA 48 63 (tf 49 562949953421311) ?_
            refine done_ (done_of HT_.out (by kernel_rfl)) ?_
            try go_wp2
            go_ret
            exact ⟨ze7, ze5⟩
          ·rw [if_neg c11] at H
           exact absurd H (by simp)
         ·rw [if_neg c10] at H
          exact absurd H (by simp)
        ·rw [if_neg c8] at H
         have c8b0 : decide (0 < x10_1) = false := decide_eq_false c8
         clear c8
         by_cases c48 : (((rd_T55 l0 x10_1).f1).length : Int) > 20
         ·rw [if_pos c48] at H
          have c48b0 : decide (20 < (((rd_T55 l0 x10_1).f1).length : Int)) = true := decide_eq_true c48
          have c48b1 : decide (20 < ((rd_T55 l0 x10_1).f1).length) = true := decide_eq_true (by omega)
          clear c48
          obtain rfl := Option.some.inj H
          have p127 : 0 ≤ (x10_1 : Int) := of_decide_eq_true ze3
          have q127 : x10_1 < (l0.length : Int) := of_decide_eq_true ze3
          obtain ⟨ad127, A127_1, c127_1, A127_2, c127_2, e127, hx127_0, hx127_1, hx127_2, hx127_3, hx127_4, hl127_1, hi127_1, hl127_2, hi127_2⟩ := at_T55 HR0.out x10_1 p127 q127
          cases e127
          try (replace hx127_0 := (HB.out.cell (World.block_lt_of_cell? w _ hx127_0)).trans hx127_0)
          try (replace hx127_1 := (HB.out.cell (World.block_lt_of_cell? w _ hx127_1)).trans hx127_1)
          try (replace hx127_2 := (HB.out.cell (World.block_lt_of_cell? w _ hx127_2)).trans hx127_2)
          try (replace hx127_3 := (HB.out.cell (World.block_lt_of_cell? w _ hx127_3)).trans hx127_3)
          try (replace hx127_4 := (HB.out.cell (World.block_lt_of_cell? w _ hx127_4)).trans hx127_4)
          have HR127_1 := Aside0.mk hi127_1
          have HC127_1 := Aside0.mk hl127_1
          clear hi127_1 hl127_1
          have HR127_2 := Aside0.mk hi127_2
          have HC127_2 := Aside0.mk hl127_2
          clear hi127_2 hl127_2
          replace p127 := eq_true p127
          replace q127 := eq_true q127
          try go_wp2_with (first | ((with_reducible refine gate_dst (N := 4) rfl ?_); (try (refine gate_guard (by rfl) ?_; dsimp only)); refine box_event ?hg (N := 4) ?hd (cs := #[.string (⟨#[]⟩ : ByteArray), .slice none 0 0, .slice none 0 0, .string (⟨#[]⟩ : ByteArray), .bool false]) (t := 55) ?hr ?_; (case hd => rfl); (case hg => rfl); (case hr => first | (go_simp; done) | (go_simp; rfl)); intro gb128 hg w49 hbox hb; have BK128 := Aside0.mk (hbox); have GW128 := Aside0.mk ((by rw [hg]; exact (below_size qB) : w.heap.size ≤ gb128)); have GE128 := Aside0.mk ((by rw [hg]; exact (below_size qB) : w.heap.size ≤ gb128)); replace HB := Aside0.mk (below_step qB hb); clear hb hbox hg; have hcz50_0 : w49.cell? ⟨gb128, 0, none⟩ = some (.string (⟨#[]⟩ : ByteArray)) := (blk_cell BK128.out 0).trans rfl; have hcz50_1 : w49.cell? ⟨gb128, 1, none⟩ = some (.slice none 0 0) := (blk_cell BK128.out 1).trans rfl; have hcz50_2 : w49.cell? ⟨gb128, 2, none⟩ = some (.slice none 0 0) := (blk_cell BK128.out 2).trans rfl; have hcz50_3 : w49.cell? ⟨gb128, 3, none⟩ = some (.string (⟨#[]⟩ : ByteArray)) := (blk_cell BK128.out 3).trans rfl; have hcz50_4 : w49.cell? ⟨gb128, 4, none⟩ = some (.bool false) := (blk_cell BK128.out 4).trans rfl; have hfz50_0 := blk_frozen BK128.out 0; have hfz50_1 := blk_frozen BK128.out 1; have hfz50_2 := blk_frozen BK128.out 2; have hfz50_3 := blk_frozen BK128.out 3; have hfz50_4 := blk_frozen BK128.out 4))
          have n0_ : Aside0 ((((((w49.setCell ⟨gb128, 0, none⟩ (.string ((rd_T55 l0 x10_1).f0))).setCell ⟨gb128, 1, none⟩ (.slice A127_1 ((rd_T55 l0 x10_1).f1).length c127_1)).setCell ⟨gb128, 2, none⟩ (.slice A127_2 ((rd_T55 l0 x10_1).f2).length c127_2)).setCell ⟨gb128, 3, none⟩ (.string ((rd_T55 l0 x10_1).f3))).setCell ⟨gb128, 4, none⟩ (.bool ((rd_T55 l0 x10_1).f4))).heap[gb128]? = some (.cells #[.string ((rd_T55 l0 x10_1).f0), .slice A127_1 ((rd_T55 l0 x10_1).f1).length c127_1, .slice A127_2 ((rd_T55 l0 x10_1).f2).length c127_2, .string ((rd_T55 l0 x10_1).f3), .bool ((rd_T55 l0 x10_1).f4)] 55 (0, 0))) := ⟨ze4⟩
          have n1_ : Aside0 (Below w.heap.size w (((((w49.setCell ⟨gb128, 0, none⟩ (.string ((rd_T55 l0 x10_1).f0))).setCell ⟨gb128, 1, none⟩ (.slice A127_1 ((rd_T55 l0 x10_1).f1).length c127_1)).setCell ⟨gb128, 2, none⟩ (.slice A127_2 ((rd_T55 l0 x10_1).f2).length c127_2)).setCell ⟨gb128, 3, none⟩ (.string ((rd_T55 l0 x10_1).f3))).setCell ⟨gb128, 4, none⟩ (.bool ((rd_T55 l0 x10_1).f4)))) := ⟨ze5⟩
          (try clear BK128)
          (try clear HB)
          generalize (((((w49.setCell ⟨gb128, 0, none⟩ (.string ((rd_T55 l0 x10_1).f0))).setCell ⟨gb128, 1, none⟩ (.slice A127_1 ((rd_T55 l0 x10_1).f1).length c127_1)).setCell ⟨gb128, 2, none⟩ (.slice A127_2 ((rd_T55 l0 x10_1).f2).length c127_2)).setCell ⟨gb128, 3, none⟩ (.string ((rd_T55 l0 x10_1).f3))).setCell ⟨gb128, 4, none⟩ (.bool ((rd_T55 l0 x10_1).f4))) = w51 at n0_ n1_ ⊢
          have BK128 := n0_
          have HB := n1_
          clear n0_ n1_
          replace BK128 := Aside0.mk (blk_drew BK128.out)
          replace HB := Aside0.mk (below_drew1 HB.out)
          refine start_ (n := 49) (S := fun w' => w'.cell? ⟨gb128, 0, none⟩ = some (.string ((rd_T55 l0 x10_1).f0)) ∧ w'.cell? ⟨gb128, 1, none⟩ = some (.slice A127_1 ((rd_T55 l0 x10_1).f1).length c127_1) ∧ w'.cell? ⟨gb128, 2, none⟩ = some (.slice A127_2 ((rd_T55 l0 x10_1).f2).length c127_2) ∧ w'.cell? ⟨gb128, 3, none⟩ = some (.string ((rd_T55 l0 x10_1).f3)) ∧ w'.cell? ⟨gb128, 4, none⟩ = some (.bool ((rd_T55 l0 x10_1).f4))) (ds := []) (tf 49 0) (by kernel_rfl) rfl rfl ⟨(blk_cell BK128.out 0).trans rfl, (blk_cell BK128.out 1).trans rfl, (blk_cell BK128.out 2).trans rfl, (blk_cell BK128.out 3).trans rfl, (blk_cell BK128.out 4).trans rfl⟩ (fun hHeld => ?_); refine with_tabW impl_UnitsOk.tab6 impl_UnitsOk.bits6 (fun HT_ HW_ => ?_)
          generalize w51.drew = w52 at BK128 HB hHeld ⊢
          refine qA 0 15 (tf 49 1) ?_
          refine qT 1 16 (tf 49 3) ?_
          refine one_ (i := 2) (N := some 17) (tf 49 7) rfl rfl (one_of HT_.out (by kernel_rfl)) (by decide) (fun K hK => ?_)
          refine goes_ Try.func51 (by kernel_rfl) rfl #[.string ((rd_T55 l0 x10_1).f0)] (by rfl) rfl rfl ze6 ?_
          with_reducible refine (impl_NameOk.calls k1 ((rd_T55 l0 x10_1).f0) true _ A6.out).mono ?_
          rintro e w' ⟨rfl, ⟨nd, rfl⟩⟩
          refine ⟨_, rfl, ?_⟩
          refine hK.out _ _ ⟨(blk_cell BK128.out 0).trans rfl, (blk_cell BK128.out 1).trans rfl, (blk_cell BK128.out 2).trans rfl, (blk_cell BK128.out 3).trans rfl, (blk_cell BK128.out 4).trans rfl⟩ (fun hHeld => ?_)
          clear hK K
          refine norm_ (a' := ?_) ?_ ?_
          rotate_left
          ·show Act.put _ (some 17) _ = _
           simp only [Act.put, sT, s0, sS, i64_w, i32_w]
           rfl
          refine qA 3 18 (tf 49 15) ?_
          refine qA 4 19 (tf 49 31) ?_
          refine qA 5 20 (tf 49 63) ?_
          refine qA 6 21 (tf 49 127) ?_
          refine qA 7 22 (tf 49 255) ?_
          refine qU 8 23 (tf 49 511) ?_
          refine qU 9 24 (tf 49 1023) ?_
          refine qU 10 25 (tf 49 2047) ?_
          refine qU 11 26 (tf 49 4095) ?_
          refine qU 12 27 (tf 49 8191) ?_
          refine qU 13 28 (tf 49 16383) ?_
          refine qU 14 29 (tf 49 32767) ?_
          refine qU 15 30 (tf 49 65535) ?_
          refine qU 16 31 (tf 49 131071) ?_
          refine qA 17 32 (tf 49 262143) ?_
          refine qA 18 33 (tf 49 524287) ?_
          refine qA 19 34 (tf 49 1048575) ?_
          refine qA 20 35 (tf 49 2097151) ?_
          refine qT 21 36 (tf 49 4194303) ?_
          refine qA 22 37 (tf 49 8388607) ?_
          refine qA 23 38 (tf 49 16777215) ?_
          refine qA 24 39 (tf 49 33554431) ?_
          refine qA 25 40 (tf 49 67108863) ?_
          refine qU 26 41 (tf 49 134217727) ?_
          refine qU 27 42 (tf 49 268435455) ?_
          refine qU 28 43 (tf 49 536870911) ?_
          refine qU 29 44 (tf 49 1073741823) ?_
          refine qA 30 45 (tf 49 2147483647) ?_
          refine qA 31 46 (tf 49 4294967295) ?_
          refine qU 32 47 (tf 49 8589934591) ?_
          refine qU 33 48 (tf 49 17179869183) ?_
          refine qU 34 49 (tf 49 34359738367) ?_
          refine qU 35 50 (tf 49 68719476735) ?_
          refine qA 36 51 (tf 49 137438953471) ?_
          refine qA 37 52 (tf 49 274877906943) ?_
          refine qU 38 53 (tf 49 549755813887) ?_
          refine qU 39 54 (tf 49 1099511627775) ?_
          refine qU 40 55 (tf 49 2199023255551) ?_
          refine qU 41 56 (tf 49 4398046511103) ?_
          refine qA 42 57 (tf 49 8796093022207) ?_
          refine qA 43 58 (tf 49 17592186044415) ?_
          refine qU 44 59 (tf 49 35184372088831) ?_
          refine qU 45 60 (tf 49 70368744177663) ?_
          refine qU 46 61 (tf 49 140737488355327) ?_
          refine qU 47 62 (tf 49 281474976710655) ?_
          refine qA 48 63 (tf 49 562949953421311) ?_
          refine done_ (done_of HT_.out (by kernel_rfl)) ?_
          try go_wp2
          go_ret
          exact ⟨ze0, ze5⟩
         ·rw [if_neg c48] at H
          have c48b0 : decide (20 < (((rd_T55 l0 x10_1).f1).length : Int)) = false := decide_eq_false c48
          have c48b1 : decide (20 < ((rd_T55 l0 x10_1).f1).length) = false := decide_eq_false (by omega)
          clear c48
          by_cases c53 : (((rd_T55 l0 x10_1).f2).length : Int) > 20
          ·rw [if_pos c53] at H
           have c53b0 : decide (20 < (((rd_T55 l0 x10_1).f2).length : Int)) = true := decide_eq_true c53
           have c53b1 : decide (20 < ((rd_T55 l0 x10_1).f2).length) = true := decide_eq_true (by omega)
           clear c53
           obtain rfl := Option.some.inj H
           have p127 : 0 ≤ (x10_1 : Int) := of_decide_eq_true ze3
           have q127 : x10_1 < (l0.length : Int) := of_decide_eq_true ze3
           obtain ⟨ad127, A127_1, c127_1, A127_2, c127_2, e127, hx127_0, hx127_1, hx127_2, hx127_3, hx127_4, hl127_1, hi127_1, hl127_2, hi127_2⟩ := at_T55 HR0.out x10_1 p127 q127
           cases e127
           try (replace hx127_0 := (HB.out.cell (World.block_lt_of_cell? w _ hx127_0)).trans hx127_0)
           try (replace hx127_1 := (HB.out.cell (World.block_lt_of_cell? w _ hx127_1)).trans hx127_1)
           try (replace hx127_2 := (HB.out.cell (World.block_lt_of_cell? w _ hx127_2)).trans hx127_2)
           try (replace hx127_3 := (HB.out.cell (World.block_lt_of_cell? w _ hx127_3)).trans hx127_3)
           try (replace hx127_4 := (HB.out.cell (World.block_lt_of_cell? w _ hx127_4)).trans hx127_4)
           have HR127_1 := Aside0.mk hi127_1
           have HC127_1 := Aside0.mk hl127_1
           clear hi127_1 hl127_1
           have HR127_2 := Aside0.mk hi127_2
           have HC127_2 := Aside0.mk hl127_2
           clear hi127_2 hl127_2
           replace p127 := eq_true p127
           replace q127 := eq_true q127
           try go_wp2_with (first | ((with_reducible refine gate_dst (N := 4) rfl ?_); (try (refine gate_guard (by rfl) ?_; dsimp only)); refine box_event ?hg (N := 4) ?hd (cs := #[.string (⟨#[]⟩ : ByteArray), .slice none 0 0, .slice none 0 0, .string (⟨#[]⟩ : ByteArray), .bool false]) (t := 55) ?hr ?_; (case hd => rfl); (case hg => rfl); (case hr => first | (go_simp; done) | (go_simp; rfl)); intro gb128 hg w54 hbox hb; have BK128 := Aside0.mk (hbox); have GW128 := Aside0.mk ((by rw [hg]; exact (below_size qB) : w.heap.size ≤ gb128)); have GE128 := Aside0.mk ((by rw [hg]; exact (below_size qB) : w.heap.size ≤ gb128)); replace HB := Aside0.mk (below_step qB hb); clear hb hbox hg; have hcz55_0 : w54.cell? ⟨gb128, 0, none⟩ = some (.string (⟨#[]⟩ : ByteArray)) := (blk_cell BK128.out 0).trans rfl; have hcz55_1 : w54.cell? ⟨gb128, 1, none⟩ = some (.slice none 0 0) := (blk_cell BK128.out 1).trans rfl; have hcz55_2 : w54.cell? ⟨gb128, 2, none⟩ = some (.slice none 0 0) := (blk_cell BK128.out 2).trans rfl; have hcz55_3 : w54.cell? ⟨gb128, 3, none⟩ = some (.string (⟨#[]⟩ : ByteArray)) := (blk_cell BK128.out 3).trans rfl; have hcz55_4 : w54.cell? ⟨gb128, 4, none⟩ = some (.bool false) := (blk_cell BK128.out 4).trans rfl; have hfz55_0 := blk_frozen BK128.out 0; have hfz55_1 := blk_frozen BK128.out 1; have hfz55_2 := blk_frozen BK128.out 2; have hfz55_3 := blk_frozen BK128.out 3; have hfz55_4 := blk_frozen BK128.out 4))
           have n0_ : Aside0 ((((((w54.setCell ⟨gb128, 0, none⟩ (.string ((rd_T55 l0 x10_1).f0))).setCell ⟨gb128, 1, none⟩ (.slice A127_1 ((rd_T55 l0 x10_1).f1).length c127_1)).setCell ⟨gb128, 2, none⟩ (.slice A127_2 ((rd_T55 l0 x10_1).f2).length c127_2)).setCell ⟨gb128, 3, none⟩ (.string ((rd_T55 l0 x10_1).f3))).setCell ⟨gb128, 4, none⟩ (.bool ((rd_T55 l0 x10_1).f4))).heap[gb128]? = some (.cells #[.string ((rd_T55 l0 x10_1).f0), .slice A127_1 ((rd_T55 l0 x10_1).f1).length c127_1, .slice A127_2 ((rd_T55 l0 x10_1).f2).length c127_2, .string ((rd_T55 l0 x10_1).f3), .bool ((rd_T55 l0 x10_1).f4)] 55 (0, 0))) := ⟨ze4⟩
           have n1_ : Aside0 (Below w.heap.size w (((((w54.setCell ⟨gb128, 0, none⟩ (.string ((rd_T55 l0 x10_1).f0))).setCell ⟨gb128, 1, none⟩ (.slice A127_1 ((rd_T55 l0 x10_1).f1).length c127_1)).setCell ⟨gb128, 2, none⟩ (.slice A127_2 ((rd_T55 l0 x10_1).f2).length c127_2)).setCell ⟨gb128, 3, none⟩ (.string ((rd_T55 l0 x10_1).f3))).setCell ⟨gb128, 4, none⟩ (.bool ((rd_T55 l0 x10_1).f4)))) := ⟨ze5⟩
           (try clear BK128)
           (try clear HB)
           generalize (((((w54.setCell ⟨gb128, 0, none⟩ (.string ((rd_T55 l0 x10_1).f0))).setCell ⟨gb128, 1, none⟩ (.slice A127_1 ((rd_T55 l0 x10_1).f1).length c127_1)).setCell ⟨gb128, 2, none⟩ (.slice A127_2 ((rd_T55 l0 x10_1).f2).length c127_2)).setCell ⟨gb128, 3, none⟩ (.string ((rd_T55 l0 x10_1).f3))).setCell ⟨gb128, 4, none⟩ (.bool ((rd_T55 l0 x10_1).f4))) = w56 at n0_ n1_ ⊢
           have BK128 := n0_
           have HB := n1_
           clear n0_ n1_
           replace BK128 := Aside0.mk (blk_drew BK128.out)
           replace HB := Aside0.mk (below_drew1 HB.out)
           refine start_ (n := 49) (S := fun w' => w'.cell? ⟨gb128, 0, none⟩ = some (.string ((rd_T55 l0 x10_1).f0)) ∧ w'.cell? ⟨gb128, 1, none⟩ = some (.slice A127_1 ((rd_T55 l0 x10_1).f1).length c127_1) ∧ w'.cell? ⟨gb128, 2, none⟩ = some (.slice A127_2 ((rd_T55 l0 x10_1).f2).length c127_2) ∧ w'.cell? ⟨gb128, 3, none⟩ = some (.string ((rd_T55 l0 x10_1).f3)) ∧ w'.cell? ⟨gb128, 4, none⟩ = some (.bool ((rd_T55 l0 x10_1).f4))) (ds := []) (tf 49 0) (by kernel_rfl) rfl rfl ⟨(blk_cell BK128.out 0).trans rfl, (blk_cell BK128.out 1).trans rfl, (blk_cell BK128.out 2).trans rfl, (blk_cell BK128.out 3).trans rfl, (blk_cell BK128.out 4).trans rfl⟩ (fun hHeld => ?_); refine with_tabW impl_UnitsOk.tab6 impl_UnitsOk.bits6 (fun HT_ HW_ => ?_)
           generalize w56.drew = w57 at BK128 HB hHeld ⊢
           refine qA 0 15 (tf 49 1) ?_
           refine qT 1 16 (tf 49 3) ?_
           refine one_ (i := 2) (N := some 17) (tf 49 7) rfl rfl (one_of HT_.out (by kernel_rfl)) (by decide) (fun K hK => ?_)
           refine goes_ Try.func51 (by kernel_rfl) rfl #[.string ((rd_T55 l0 x10_1).f0)] (by rfl) rfl rfl ze6 ?_
           with_reducible refine (impl_NameOk.calls k1 ((rd_T55 l0 x10_1).f0) true _ A6.out).mono ?_
           rintro e w' ⟨rfl, ⟨nd, rfl⟩⟩
           refine ⟨_, rfl, ?_⟩
           refine hK.out _ _ ⟨(blk_cell BK128.out 0).trans rfl, (blk_cell BK128.out 1).trans rfl, (blk_cell BK128.out 2).trans rfl, (blk_cell BK128.out 3).trans rfl, (blk_cell BK128.out 4).trans rfl⟩ (fun hHeld => ?_)
           clear hK K
           refine norm_ (a' := ?_) ?_ ?_
           rotate_left
           ·show Act.put _ (some 17) _ = _
            simp only [Act.put, sT, s0, sS, i64_w, i32_w]
            rfl
           refine qA 3 18 (tf 49 15) ?_
           refine qA 4 19 (tf 49 31) ?_
           refine qA 5 20 (tf 49 63) ?_
           refine qA 6 21 (tf 49 127) ?_
           refine qA 7 22 (tf 49 255) ?_
           refine qU 8 23 (tf 49 511) ?_
           refine qU 9 24 (tf 49 1023) ?_
           refine qU 10 25 (tf 49 2047) ?_
           refine qU 11 26 (tf 49 4095) ?_
           refine qU 12 27 (tf 49 8191) ?_
           refine qU 13 28 (tf 49 16383) ?_
           refine qU 14 29 (tf 49 32767) ?_
           refine qU 15 30 (tf 49 65535) ?_
           refine qU 16 31 (tf 49 131071) ?_
           refine qA 17 32 (tf 49 262143) ?_
           refine qA 18 33 (tf 49 524287) ?_
           refine qA 19 34 (tf 49 1048575) ?_
           refine qA 20 35 (tf 49 2097151) ?_
           refine qT 21 36 (tf 49 4194303) ?_
           refine qA 22 37 (tf 49 8388607) ?_
           refine qA 23 38 (tf 49 16777215) ?_
           refine qA 24 39 (tf 49 33554431) ?_
           refine qA 25 40 (tf 49 67108863) ?_
           refine qA 26 41 (tf 49 134217727) ?_
           refine qT 27 42 (tf 49 268435455) ?_
           refine qA 28 43 (tf 49 536870911) ?_
           refine qA 29 44 (tf 49 1073741823) ?_
           refine qA 30 45 (tf 49 2147483647) ?_
           refine qA 31 46 (tf 49 4294967295) ?_
           refine qU 32 47 (tf 49 8589934591) ?_
           refine qU 33 48 (tf 49 17179869183) ?_
           refine qU 34 49 (tf 49 34359738367) ?_
           refine qU 35 50 (tf 49 68719476735) ?_
           refine qA 36 51 (tf 49 137438953471) ?_
           refine qA 37 52 (tf 49 274877906943) ?_
           refine qU 38 53 (tf 49 549755813887) ?_
           refine qU 39 54 (tf 49 1099511627775) ?_
           refine qU 40 55 (tf 49 2199023255551) ?_
           refine qU 41 56 (tf 49 4398046511103) ?_
           refine qA 42 57 (tf 49 8796093022207) ?_
           refine qA 43 58 (tf 49 17592186044415) ?_
           refine qU 44 59 (tf 49 35184372088831) ?_
           refine qU 45 60 (tf 49 70368744177663) ?_
           refine qU 46 61 (tf 49 140737488355327) ?_
           refine qU 47 62 (tf 49 281474976710655) ?_
           refine qA 48 63 (tf 49 562949953421311) ?_
           refine done_ (done_of HT_.out (by kernel_rfl)) ?_
           try go_wp2
           go_ret
           exact ⟨ze0, ze5⟩
          ·rw [if_neg c53] at H
           have c53b0 : decide (20 < (((rd_T55 l0 x10_1).f2).length : Int)) = false := decide_eq_false c53
           have c53b1 : decide (20 < ((rd_T55 l0 x10_1).f2).length) = false := decide_eq_false (by omega)
           clear c53
           replace H := Option.bind_eq_some_iff.mp H
           obtain ⟨t133, A580, H⟩ := H
           replace H : (if t133 = true then ((impl_namesUp.f k1 ((rd_T55 l0 x10_1).f2)).bind fun t134 => (if t134 = true then (if (((rd_T55 l0 x10_1).f3).size : Int) > 4000 then (some false) else (impl_UnitsOk.l0 k1 l0 l0 (l0.length : Int) (wrap64 (x10_1 + 1)))) else (some false))) else (some false)) = some r := H
           have A58 := Aside0.mk A580
           clear A580
           by_cases c59 : t133 = true
           ·subst c59
            have H1 : ((impl_namesUp.f k1 ((rd_T55 l0 x10_1).f2)).bind fun t134 => (if t134 = true then (if (((rd_T55 l0 x10_1).f3).size : Int) > 4000 then (some false) else (impl_UnitsOk.l0 k1 l0 l0 (l0.length : Int) (wrap64 (x10_1 + 1)))) else (some false))) = some r := by rw [if_pos rfl] at H; exact H
            clear H
            have H := H1
            clear H1
            replace H := Option.bind_eq_some_iff.mp H
            obtain ⟨t134, A600, H⟩ := H
            replace H : (if t134 = true then (if (((rd_T55 l0 x10_1).f3).size : Int) > 4000 then (some false) else (impl_UnitsOk.l0 k1 l0 l0 (l0.length : Int) (wrap64 (x10_1 + 1)))) else (some false)) = some r := H
            have A60 := Aside0.mk A600
            clear A600
            by_cases c61 : t134 = true
            ·subst c61
             have H1 : (if (((rd_T55 l0 x10_1).f3).size : Int) > 4000 then (some false) else (impl_UnitsOk.l0 k1 l0 l0 (l0.length : Int) (wrap64 (x10_1 + 1)))) = some r := by rw [if_pos rfl] at H; exact H
             clear H
             have H := H1
             clear H1
             by_cases c62 : (((rd_T55 l0 x10_1).f3).size : Int) > 4000
             ·rw [if_pos c62] at H
              have c62b0 : decide (4000 < (((rd_T55 l0 x10_1).f3).size : Int)) = true := decide_eq_true c62
              have c62b1 : decide (4000 < ((rd_T55 l0 x10_1).f3).size) = true := decide_eq_true (by omega)
              clear c62
              obtain rfl := Option.some.inj H
              have p127 : 0 ≤ (x10_1 : Int) := of_decide_eq_true ze3
              have q127 : x10_1 < (l0.length : Int) := of_decide_eq_true ze3
              obtain ⟨ad127, A127_1, c127_1, A127_2, c127_2, e127, hx127_0, hx127_1, hx127_2, hx127_3, hx127_4, hl127_1, hi127_1, hl127_2, hi127_2⟩ := at_T55 HR0.out x10_1 p127 q127
              cases e127
              try (replace hx127_0 := (HB.out.cell (World.block_lt_of_cell? w _ hx127_0)).trans hx127_0)
              try (replace hx127_1 := (HB.out.cell (World.block_lt_of_cell? w _ hx127_1)).trans hx127_1)
              try (replace hx127_2 := (HB.out.cell (World.block_lt_of_cell? w _ hx127_2)).trans hx127_2)
              try (replace hx127_3 := (HB.out.cell (World.block_lt_of_cell? w _ hx127_3)).trans hx127_3)
              try (replace hx127_4 := (HB.out.cell (World.block_lt_of_cell? w _ hx127_4)).trans hx127_4)
              have HR127_1 := Aside0.mk hi127_1
              have HC127_1 := Aside0.mk hl127_1
              clear hi127_1 hl127_1
              have HR127_2 := Aside0.mk hi127_2
              have HC127_2 := Aside0.mk hl127_2
              clear hi127_2 hl127_2
              replace p127 := eq_true p127
              replace q127 := eq_true q127
              try go_wp2_with (first | ((with_reducible refine gate_dst (N := 4) rfl ?_); (try (refine gate_guard (by rfl) ?_; dsimp only)); refine box_event ?hg (N := 4) ?hd (cs := #[.string (⟨#[]⟩ : ByteArray), .slice none 0 0, .slice none 0 0, .string (⟨#[]⟩ : ByteArray), .bool false]) (t := 55) ?hr ?_; (case hd => rfl); (case hg => rfl); (case hr => first | (go_simp; done) | (go_simp; rfl)); intro gb128 hg w63 hbox hb; have BK128 := Aside0.mk (hbox); have GW128 := Aside0.mk ((by rw [hg]; exact (below_size qB) : w.heap.size ≤ gb128)); have GE128 := Aside0.mk ((by rw [hg]; exact (below_size qB) : w.heap.size ≤ gb128)); replace HB := Aside0.mk (below_step qB hb); clear hb hbox hg; have hcz64_0 : w63.cell? ⟨gb128, 0, none⟩ = some (.string (⟨#[]⟩ : ByteArray)) := (blk_cell BK128.out 0).trans rfl; have hcz64_1 : w63.cell? ⟨gb128, 1, none⟩ = some (.slice none 0 0) := (blk_cell BK128.out 1).trans rfl; have hcz64_2 : w63.cell? ⟨gb128, 2, none⟩ = some (.slice none 0 0) := (blk_cell BK128.out 2).trans rfl; have hcz64_3 : w63.cell? ⟨gb128, 3, none⟩ = some (.string (⟨#[]⟩ : ByteArray)) := (blk_cell BK128.out 3).trans rfl; have hcz64_4 : w63.cell? ⟨gb128, 4, none⟩ = some (.bool false) := (blk_cell BK128.out 4).trans rfl; have hfz64_0 := blk_frozen BK128.out 0; have hfz64_1 := blk_frozen BK128.out 1; have hfz64_2 := blk_frozen BK128.out 2; have hfz64_3 := blk_frozen BK128.out 3; have hfz64_4 := blk_frozen BK128.out 4))
              have n0_ : Aside0 ((((((w63.setCell ⟨gb128, 0, none⟩ (.string ((rd_T55 l0 x10_1).f0))).setCell ⟨gb128, 1, none⟩ (.slice A127_1 ((rd_T55 l0 x10_1).f1).length c127_1)).setCell ⟨gb128, 2, none⟩ (.slice A127_2 ((rd_T55 l0 x10_1).f2).length c127_2)).setCell ⟨gb128, 3, none⟩ (.string ((rd_T55 l0 x10_1).f3))).setCell ⟨gb128, 4, none⟩ (.bool ((rd_T55 l0 x10_1).f4))).heap[gb128]? = some (.cells #[.string ((rd_T55 l0 x10_1).f0), .slice A127_1 ((rd_T55 l0 x10_1).f1).length c127_1, .slice A127_2 ((rd_T55 l0 x10_1).f2).length c127_2, .string ((rd_T55 l0 x10_1).f3), .bool ((rd_T55 l0 x10_1).f4)] 55 (0, 0))) := ⟨ze4⟩
              have n1_ : Aside0 (Below w.heap.size w (((((w63.setCell ⟨gb128, 0, none⟩ (.string ((rd_T55 l0 x10_1).f0))).setCell ⟨gb128, 1, none⟩ (.slice A127_1 ((rd_T55 l0 x10_1).f1).length c127_1)).setCell ⟨gb128, 2, none⟩ (.slice A127_2 ((rd_T55 l0 x10_1).f2).length c127_2)).setCell ⟨gb128, 3, none⟩ (.string ((rd_T55 l0 x10_1).f3))).setCell ⟨gb128, 4, none⟩ (.bool ((rd_T55 l0 x10_1).f4)))) := ⟨ze5⟩
              (try clear BK128)
              (try clear HB)
              generalize (((((w63.setCell ⟨gb128, 0, none⟩ (.string ((rd_T55 l0 x10_1).f0))).setCell ⟨gb128, 1, none⟩ (.slice A127_1 ((rd_T55 l0 x10_1).f1).length c127_1)).setCell ⟨gb128, 2, none⟩ (.slice A127_2 ((rd_T55 l0 x10_1).f2).length c127_2)).setCell ⟨gb128, 3, none⟩ (.string ((rd_T55 l0 x10_1).f3))).setCell ⟨gb128, 4, none⟩ (.bool ((rd_T55 l0 x10_1).f4))) = w65 at n0_ n1_ ⊢
              have BK128 := n0_
              have HB := n1_
              clear n0_ n1_
              replace BK128 := Aside0.mk (blk_drew BK128.out)
              replace HB := Aside0.mk (below_drew1 HB.out)
              refine start_ (n := 49) (S := fun w' => w'.cell? ⟨gb128, 0, none⟩ = some (.string ((rd_T55 l0 x10_1).f0)) ∧ w'.cell? ⟨gb128, 1, none⟩ = some (.slice A127_1 ((rd_T55 l0 x10_1).f1).length c127_1) ∧ w'.cell? ⟨gb128, 2, none⟩ = some (.slice A127_2 ((rd_T55 l0 x10_1).f2).length c127_2) ∧ w'.cell? ⟨gb128, 3, none⟩ = some (.string ((rd_T55 l0 x10_1).f3)) ∧ w'.cell? ⟨gb128, 4, none⟩ = some (.bool ((rd_T55 l0 x10_1).f4))) (ds := []) (tf 49 0) (by kernel_rfl) rfl rfl ⟨(blk_cell BK128.out 0).trans rfl, (blk_cell BK128.out 1).trans rfl, (blk_cell BK128.out 2).trans rfl, (blk_cell BK128.out 3).trans rfl, (blk_cell BK128.out 4).trans rfl⟩ (fun hHeld => ?_); refine with_tabW impl_UnitsOk.tab6 impl_UnitsOk.bits6 (fun HT_ HW_ => ?_)
              generalize w65.drew = w66 at BK128 HB hHeld ⊢
              refine qA 0 15 (tf 49 1) ?_
              refine qT 1 16 (tf 49 3) ?_
              refine one_ (i := 2) (N := some 17) (tf 49 7) rfl rfl (one_of HT_.out (by kernel_rfl)) (by decide) (fun K hK => ?_)
              refine goes_ Try.func51 (by kernel_rfl) rfl #[.string ((rd_T55 l0 x10_1).f0)] (by rfl) rfl rfl ze6 ?_
              with_reducible refine (impl_NameOk.calls k1 ((rd_T55 l0 x10_1).f0) true _ A6.out).mono ?_
              rintro e w' ⟨rfl, ⟨nd, rfl⟩⟩
              refine ⟨_, rfl, ?_⟩
              refine hK.out _ _ ⟨(blk_cell BK128.out 0).trans rfl, (blk_cell BK128.out 1).trans rfl, (blk_cell BK128.out 2).trans rfl, (blk_cell BK128.out 3).trans rfl, (blk_cell BK128.out 4).trans rfl⟩ (fun hHeld => ?_)
              clear hK K
              refine norm_ (a' := ?_) ?_ ?_
              rotate_left
              ·show Act.put _ (some 17) _ = _
               simp only [Act.put, sT, s0, sS, i64_w, i32_w]
               rfl
              refine qA 3 18 (tf 49 15) ?_
              refine qA 4 19 (tf 49 31) ?_
              refine qA 5 20 (tf 49 63) ?_
              refine qA 6 21 (tf 49 127) ?_
              refine qA 7 22 (tf 49 255) ?_
              refine qU 8 23 (tf 49 511) ?_
              refine qU 9 24 (tf 49 1023) ?_
              refine qU 10 25 (tf 49 2047) ?_
              refine qU 11 26 (tf 49 4095) ?_
              refine qU 12 27 (tf 49 8191) ?_
              refine qU 13 28 (tf 49 16383) ?_
              refine qU 14 29 (tf 49 32767) ?_
              refine qU 15 30 (tf 49 65535) ?_
              refine qU 16 31 (tf 49 131071) ?_
              refine qA 17 32 (tf 49 262143) ?_
              refine qA 18 33 (tf 49 524287) ?_
              refine qA 19 34 (tf 49 1048575) ?_
              refine qA 20 35 (tf 49 2097151) ?_
              refine qT 21 36 (tf 49 4194303) ?_
              refine qA 22 37 (tf 49 8388607) ?_
              refine qA 23 38 (tf 49 16777215) ?_
              refine qA 24 39 (tf 49 33554431) ?_
              refine qA 25 40 (tf 49 67108863) ?_
              refine qA 26 41 (tf 49 134217727) ?_
              refine qT 27 42 (tf 49 268435455) ?_
              refine qA 28 43 (tf 49 536870911) ?_
              refine qA 29 44 (tf 49 1073741823) ?_
              refine qA 30 45 (tf 49 2147483647) ?_
              refine qA 31 46 (tf 49 4294967295) ?_
              refine qA 32 47 (tf 49 8589934591) ?_
              refine qT 33 48 (tf 49 17179869183) ?_
              refine one_ (i := 34) (N := some 49) (tf 49 34359738367) rfl rfl (one_of HT_.out (by kernel_rfl)) (by decide) (fun K hK => ?_)
              refine goes_ Try.func52 (by kernel_rfl) rfl #[.slice A127_1 ((rd_T55 l0 x10_1).f1).length c127_1] (by rfl) rfl rfl ze6 ?_
              with_reducible refine (impl_namesUp.calls k1 _ _ ((rd_T55 l0 x10_1).f1) true _ ?side1 ?side2 A58.out).mono ?_
              (case side1 => exact ze8 HR127_1.out)
              (case side2 => exact HC127_1.out)
              rintro e w' ⟨rfl, ⟨nd, rfl⟩⟩
              refine ⟨_, rfl, ?_⟩
              refine hK.out _ _ ⟨(blk_cell BK128.out 0).trans rfl, (blk_cell BK128.out 1).trans rfl, (blk_cell BK128.out 2).trans rfl, (blk_cell BK128.out 3).trans rfl, (blk_cell BK128.out 4).trans rfl⟩ (fun hHeld => ?_)
              clear hK K
              refine norm_ (a' := ?_) ?_ ?_
              rotate_left
              ·show Act.put _ (some 49) _ = _
               simp only [Act.put, sT, s0, sS, i64_w, i32_w]
               rfl
              refine qA 35 50 (tf 49 68719476735) ?_
              refine qA 36 51 (tf 49 137438953471) ?_
              refine qA 37 52 (tf 49 274877906943) ?_
              refine qA 38 53 (tf 49 549755813887) ?_
              refine qT 39 54 (tf 49 1099511627775) ?_
              refine one_ (i := 40) (N := some 55) (tf 49 2199023255551) rfl rfl (one_of HT_.out (by kernel_rfl)) (by decide) (fun K hK => ?_)
              refine goes_ Try.func52 (by kernel_rfl) rfl #[.slice A127_2 ((rd_T55 l0 x10_1).f2).length c127_2] (by rfl) rfl rfl ze6 ?_
              with_reducible refine (impl_namesUp.calls k1 _ _ ((rd_T55 l0 x10_1).f2) true _ ?side1 ?side2 A60.out).mono ?_
              (case side1 => exact ze8 HR127_2.out)
              (case side2 => exact HC127_2.out)
              rintro e w' ⟨rfl, ⟨nd, rfl⟩⟩
              refine ⟨_, rfl, ?_⟩
              refine hK.out _ _ ⟨(blk_cell BK128.out 0).trans rfl, (blk_cell BK128.out 1).trans rfl, (blk_cell BK128.out 2).trans rfl, (blk_cell BK128.out 3).trans rfl, (blk_cell BK128.out 4).trans rfl⟩ (fun hHeld => ?_)
              clear hK K
              refine norm_ (a' := ?_) ?_ ?_
              rotate_left
              ·show Act.put _ (some 55) _ = _
               simp only [Act.put, sT, s0, sS, i64_w, i32_w]
               rfl
              refine qA 41 56 (tf 49 4398046511103) ?_
              refine qA 42 57 (tf 49 8796093022207) ?_
              refine qA 43 58 (tf 49 17592186044415) ?_
              refine qA 44 59 (tf 49 35184372088831) ?_
              refine qT 45 60 (tf 49 70368744177663) ?_
              refine qA 46 61 (tf 49 140737488355327) ?_
              refine qA 47 62 (tf 49 281474976710655) ?_
              refine qA 48 63 (tf 49 562949953421311) ?_
              refine done_ (done_of HT_.out (by kernel_rfl)) ?_
              try go_wp2
              go_ret
              exact ⟨ze0, ze5⟩
             ·rw [if_neg c62] at H
              have c62b0 : decide (4000 < (((rd_T55 l0 x10_1).f3).size : Int)) = false := decide_eq_false c62
              have c62b1 : decide (4000 < ((rd_T55 l0 x10_1).f3).size) = false := decide_eq_false (by omega)
              clear c62
              have H' := Aside0.mk H
              clear H
              have p127 : 0 ≤ (x10_1 : Int) := of_decide_eq_true ze3
              have q127 : x10_1 < (l0.length : Int) := of_decide_eq_true ze3
              obtain ⟨ad127, A127_1, c127_1, A127_2, c127_2, e127, hx127_0, hx127_1, hx127_2, hx127_3, hx127_4, hl127_1, hi127_1, hl127_2, hi127_2⟩ := at_T55 HR0.out x10_1 p127 q127
              cases e127
              try (replace hx127_0 := (HB.out.cell (World.block_lt_of_cell? w _ hx127_0)).trans hx127_0)
              try (replace hx127_1 := (HB.out.cell (World.block_lt_of_cell? w _ hx127_1)).trans hx127_1)
              try (replace hx127_2 := (HB.out.cell (World.block_lt_of_cell? w _ hx127_2)).trans hx127_2)
              try (replace hx127_3 := (HB.out.cell (World.block_lt_of_cell? w _ hx127_3)).trans hx127_3)
              try (replace hx127_4 := (HB.out.cell (World.block_lt_of_cell? w _ hx127_4)).trans hx127_4)
              have HR127_1 := Aside0.mk hi127_1
              have HC127_1 := Aside0.mk hl127_1
              clear hi127_1 hl127_1
              have HR127_2 := Aside0.mk hi127_2
              have HC127_2 := Aside0.mk hl127_2
              clear hi127_2 hl127_2
              replace p127 := eq_true p127
              replace q127 := eq_true q127
              try go_wp2_with (first | ((with_reducible refine gate_dst (N := 4) rfl ?_); (try (refine gate_guard (by rfl) ?_; dsimp only)); refine box_event ?hg (N := 4) ?hd (cs := #[.string (⟨#[]⟩ : ByteArray), .slice none 0 0, .slice none 0 0, .string (⟨#[]⟩ : ByteArray), .bool false]) (t := 55) ?hr ?_; (case hd => rfl); (case hg => rfl); (case hr => first | (go_simp; done) | (go_simp; rfl)); intro gb128 hg w67 hbox hb; have BK128 := Aside0.mk (hbox); have GW128 := Aside0.mk ((by rw [hg]; exact (below_size qB) : w.heap.size ≤ gb128)); have GE128 := Aside0.mk ((by rw [hg]; exact (below_size qB) : w.heap.size ≤ gb128)); replace HB := Aside0.mk (below_step qB hb); clear hb hbox hg; have hcz68_0 : w67.cell? ⟨gb128, 0, none⟩ = some (.string (⟨#[]⟩ : ByteArray)) := (blk_cell BK128.out 0).trans rfl; have hcz68_1 : w67.cell? ⟨gb128, 1, none⟩ = some (.slice none 0 0) := (blk_cell BK128.out 1).trans rfl; have hcz68_2 : w67.cell? ⟨gb128, 2, none⟩ = some (.slice none 0 0) := (blk_cell BK128.out 2).trans rfl; have hcz68_3 : w67.cell? ⟨gb128, 3, none⟩ = some (.string (⟨#[]⟩ : ByteArray)) := (blk_cell BK128.out 3).trans rfl; have hcz68_4 : w67.cell? ⟨gb128, 4, none⟩ = some (.bool false) := (blk_cell BK128.out 4).trans rfl; have hfz68_0 := blk_frozen BK128.out 0; have hfz68_1 := blk_frozen BK128.out 1; have hfz68_2 := blk_frozen BK128.out 2; have hfz68_3 := blk_frozen BK128.out 3; have hfz68_4 := blk_frozen BK128.out 4))
              have n0_ : Aside0 ((((((w67.setCell ⟨gb128, 0, none⟩ (.string ((rd_T55 l0 x10_1).f0))).setCell ⟨gb128, 1, none⟩ (.slice A127_1 ((rd_T55 l0 x10_1).f1).length c127_1)).setCell ⟨gb128, 2, none⟩ (.slice A127_2 ((rd_T55 l0 x10_1).f2).length c127_2)).setCell ⟨gb128, 3, none⟩ (.string ((rd_T55 l0 x10_1).f3))).setCell ⟨gb128, 4, none⟩ (.bool ((rd_T55 l0 x10_1).f4))).heap[gb128]? = some (.cells #[.string ((rd_T55 l0 x10_1).f0), .slice A127_1 ((rd_T55 l0 x10_1).f1).length c127_1, .slice A127_2 ((rd_T55 l0 x10_1).f2).length c127_2, .string ((rd_T55 l0 x10_1).f3), .bool ((rd_T55 l0 x10_1).f4)] 55 (0, 0))) := ⟨ze4⟩
              have n1_ : Aside0 (Below w.heap.size w (((((w67.setCell ⟨gb128, 0, none⟩ (.string ((rd_T55 l0 x10_1).f0))).setCell ⟨gb128, 1, none⟩ (.slice A127_1 ((rd_T55 l0 x10_1).f1).length c127_1)).setCell ⟨gb128, 2, none⟩ (.slice A127_2 ((rd_T55 l0 x10_1).f2).length c127_2)).setCell ⟨gb128, 3, none⟩ (.string ((rd_T55 l0 x10_1).f3))).setCell ⟨gb128, 4, none⟩ (.bool ((rd_T55 l0 x10_1).f4)))) := ⟨ze5⟩
              (try clear BK128)
              (try clear HB)
              generalize (((((w67.setCell ⟨gb128, 0, none⟩ (.string ((rd_T55 l0 x10_1).f0))).setCell ⟨gb128, 1, none⟩ (.slice A127_1 ((rd_T55 l0 x10_1).f1).length c127_1)).setCell ⟨gb128, 2, none⟩ (.slice A127_2 ((rd_T55 l0 x10_1).f2).length c127_2)).setCell ⟨gb128, 3, none⟩ (.string ((rd_T55 l0 x10_1).f3))).setCell ⟨gb128, 4, none⟩ (.bool ((rd_T55 l0 x10_1).f4))) = w69 at n0_ n1_ ⊢
              have BK128 := n0_
              have HB := n1_
              clear n0_ n1_
              replace BK128 := Aside0.mk (blk_drew BK128.out)
              replace HB := Aside0.mk (below_drew1 HB.out)
              refine start_ (n := 49) (S := fun w' => w'.cell? ⟨gb128, 0, none⟩ = some (.string ((rd_T55 l0 x10_1).f0)) ∧ w'.cell? ⟨gb128, 1, none⟩ = some (.slice A127_1 ((rd_T55 l0 x10_1).f1).length c127_1) ∧ w'.cell? ⟨gb128, 2, none⟩ = some (.slice A127_2 ((rd_T55 l0 x10_1).f2).length c127_2) ∧ w'.cell? ⟨gb128, 3, none⟩ = some (.string ((rd_T55 l0 x10_1).f3)) ∧ w'.cell? ⟨gb128, 4, none⟩ = some (.bool ((rd_T55 l0 x10_1).f4))) (ds := []) (tf 49 0) (by kernel_rfl) rfl rfl ⟨(blk_cell BK128.out 0).trans rfl, (blk_cell BK128.out 1).trans rfl, (blk_cell BK128.out 2).trans rfl, (blk_cell BK128.out 3).trans rfl, (blk_cell BK128.out 4).trans rfl⟩ (fun hHeld => ?_); refine with_tabW impl_UnitsOk.tab6 impl_UnitsOk.bits6 (fun HT_ HW_ => ?_)
              generalize w69.drew = w70 at BK128 HB hHeld ⊢
              refine qA 0 15 (tf 49 1) ?_
              refine qT 1 16 (tf 49 3) ?_
              refine one_ (i := 2) (N := some 17) (tf 49 7) rfl rfl (one_of HT_.out (by kernel_rfl)) (by decide) (fun K hK => ?_)
              refine goes_ Try.func51 (by kernel_rfl) rfl #[.string ((rd_T55 l0 x10_1).f0)] (by rfl) rfl rfl ze6 ?_
              with_reducible refine (impl_NameOk.calls k1 ((rd_T55 l0 x10_1).f0) true _ A6.out).mono ?_
              rintro e w' ⟨rfl, ⟨nd, rfl⟩⟩
              refine ⟨_, rfl, ?_⟩
              refine hK.out _ _ ⟨(blk_cell BK128.out 0).trans rfl, (blk_cell BK128.out 1).trans rfl, (blk_cell BK128.out 2).trans rfl, (blk_cell BK128.out 3).trans rfl, (blk_cell BK128.out 4).trans rfl⟩ (fun hHeld => ?_)
              clear hK K
              refine norm_ (a' := ?_) ?_ ?_
              rotate_left
              ·show Act.put _ (some 17) _ = _
               simp only [Act.put, sT, s0, sS, i64_w, i32_w]
               rfl
              refine qA 3 18 (tf 49 15) ?_
              refine qA 4 19 (tf 49 31) ?_
              refine qA 5 20 (tf 49 63) ?_
              refine qA 6 21 (tf 49 127) ?_
              refine qA 7 22 (tf 49 255) ?_
              refine qU 8 23 (tf 49 511) ?_
              refine qU 9 24 (tf 49 1023) ?_
              refine qU 10 25 (tf 49 2047) ?_
              refine qU 11 26 (tf 49 4095) ?_
              refine qU 12 27 (tf 49 8191) ?_
              refine qU 13 28 (tf 49 16383) ?_
              refine qU 14 29 (tf 49 32767) ?_
              refine qU 15 30 (tf 49 65535) ?_
              refine qU 16 31 (tf 49 131071) ?_
              refine qA 17 32 (tf 49 262143) ?_
              refine qA 18 33 (tf 49 524287) ?_
              refine qA 19 34 (tf 49 1048575) ?_
              refine qA 20 35 (tf 49 2097151) ?_
              refine qT 21 36 (tf 49 4194303) ?_
              refine qA 22 37 (tf 49 8388607) ?_
              refine qA 23 38 (tf 49 16777215) ?_
              refine qA 24 39 (tf 49 33554431) ?_
              refine qA 25 40 (tf 49 67108863) ?_
              refine qA 26 41 (tf 49 134217727) ?_
              refine qT 27 42 (tf 49 268435455) ?_
              refine qA 28 43 (tf 49 536870911) ?_
              refine qA 29 44 (tf 49 1073741823) ?_
              refine qA 30 45 (tf 49 2147483647) ?_
              refine qA 31 46 (tf 49 4294967295) ?_
              refine qA 32 47 (tf 49 8589934591) ?_
              refine qT 33 48 (tf 49 17179869183) ?_
              refine one_ (i := 34) (N := some 49) (tf 49 34359738367) rfl rfl (one_of HT_.out (by kernel_rfl)) (by decide) (fun K hK => ?_)
              refine goes_ Try.func52 (by kernel_rfl) rfl #[.slice A127_1 ((rd_T55 l0 x10_1).f1).length c127_1] (by rfl) rfl rfl ze6 ?_
              with_reducible refine (impl_namesUp.calls k1 _ _ ((rd_T55 l0 x10_1).f1) true _ ?side1 ?side2 A58.out).mono ?_
              (case side1 => exact ze8 HR127_1.out)
              (case side2 => exact HC127_1.out)
              rintro e w' ⟨rfl, ⟨nd, rfl⟩⟩
              refine ⟨_, rfl, ?_⟩
              refine hK.out _ _ ⟨(blk_cell BK128.out 0).trans rfl, (blk_cell BK128.out 1).trans rfl, (blk_cell BK128.out 2).trans rfl, (blk_cell BK128.out 3).trans rfl, (blk_cell BK128.out 4).trans rfl⟩ (fun hHeld => ?_)
              clear hK K
              refine norm_ (a' := ?_) ?_ ?_
              rotate_left
              ·show Act.put _ (some 49) _ = _
               simp only [Act.put, sT, s0, sS, i64_w, i32_w]
               rfl
              refine qA 35 50 (tf 49 68719476735) ?_
              refine qA 36 51 (tf 49 137438953471) ?_
              refine qA 37 52 (tf 49 274877906943) ?_
              refine qA 38 53 (tf 49 549755813887) ?_
              refine qT 39 54 (tf 49 1099511627775) ?_
              refine one_ (i := 40) (N := some 55) (tf 49 2199023255551) rfl rfl (one_of HT_.out (by kernel_rfl)) (by decide) (fun K hK => ?_)
              refine goes_ Try.func52 (by kernel_rfl) rfl #[.slice A127_2 ((rd_T55 l0 x10_1).f2).length c127_2] (by rfl) rfl rfl ze6 ?_
              with_reducible refine (impl_namesUp.calls k1 _ _ ((rd_T55 l0 x10_1).f2) true _ ?side1 ?side2 A60.out).mono ?_
              (case side1 => exact ze8 HR127_2.out)
              (case side2 => exact HC127_2.out)
              rintro e w' ⟨rfl, ⟨nd, rfl⟩⟩
              refine ⟨_, rfl, ?_⟩
              refine hK.out _ _ ⟨(blk_cell BK128.out 0).trans rfl, (blk_cell BK128.out 1).trans rfl, (blk_cell BK128.out 2).trans rfl, (blk_cell BK128.out 3).trans rfl, (blk_cell BK128.out 4).trans rfl⟩ (fun hHeld => ?_)
              clear hK K
              refine norm_ (a' := ?_) ?_ ?_
              rotate_left
              ·show Act.put _ (some 55) _ = _
               simp only [Act.put, sT, s0, sS, i64_w, i32_w]
               rfl
              refine qA 41 56 (tf 49 4398046511103) ?_
              refine qA 42 57 (tf 49 8796093022207) ?_
              refine qA 43 58 (tf 49 17592186044415) ?_
              refine qA 44 59 (tf 49 35184372088831) ?_
              refine qT 45 60 (tf 49 70368744177663) ?_
              refine qA 46 61 (tf 49 140737488355327) ?_
              refine qA 47 62 (tf 49 281474976710655) ?_
              refine qA 48 63 (tf 49 562949953421311) ?_
              refine done_ (done_of HT_.out (by kernel_rfl)) ?_
              try go_wp2
              go_roundg k1
              case measure => have := HK1.out; omega
              case rel => exact ⟨(wrap64 (x10_1 + 1)), ze2, H', ⟨by have := HK1.out; omega⟩, ⟨ze5⟩⟩
            ·replace c61 := Bool.eq_false_iff.mpr c61
             subst c61
             have H1 : (some false) = some r := by rw [if_neg (show ¬ (false = true) by decide)] at H; exact H
             clear H
             have H := H1
             clear H1
             obtain rfl := Option.some.inj H
             have p127 : 0 ≤ (x10_1 : Int) := of_decide_eq_true ze3
             have q127 : x10_1 < (l0.length : Int) := of_decide_eq_true ze3
             obtain ⟨ad127, A127_1, c127_1, A127_2, c127_2, e127, hx127_0, hx127_1, hx127_2, hx127_3, hx127_4, hl127_1, hi127_1, hl127_2, hi127_2⟩ := at_T55 HR0.out x10_1 p127 q127
             cases e127
             try (replace hx127_0 := (HB.out.cell (World.block_lt_of_cell? w _ hx127_0)).trans hx127_0)
             try (replace hx127_1 := (HB.out.cell (World.block_lt_of_cell? w _ hx127_1)).trans hx127_1)
             try (replace hx127_2 := (HB.out.cell (World.block_lt_of_cell? w _ hx127_2)).trans hx127_2)
             try (replace hx127_3 := (HB.out.cell (World.block_lt_of_cell? w _ hx127_3)).trans hx127_3)
             try (replace hx127_4 := (HB.out.cell (World.block_lt_of_cell? w _ hx127_4)).trans hx127_4)
             have HR127_1 := Aside0.mk hi127_1
             have HC127_1 := Aside0.mk hl127_1
             clear hi127_1 hl127_1
             have HR127_2 := Aside0.mk hi127_2
             have HC127_2 := Aside0.mk hl127_2
             clear hi127_2 hl127_2
             replace p127 := eq_true p127
             replace q127 := eq_true q127
             try go_wp2_with (first | ((with_reducible refine gate_dst (N := 4) rfl ?_); (try (refine gate_guard (by rfl) ?_; dsimp only)); refine box_event ?hg (N := 4) ?hd (cs := #[.string (⟨#[]⟩ : ByteArray), .slice none 0 0, .slice none 0 0, .string (⟨#[]⟩ : ByteArray), .bool false]) (t := 55) ?hr ?_; (case hd => rfl); (case hg => rfl); (case hr => first | (go_simp; done) | (go_simp; rfl)); intro gb128 hg w71 hbox hb; have BK128 := Aside0.mk (hbox); have GW128 := Aside0.mk ((by rw [hg]; exact (below_size qB) : w.heap.size ≤ gb128)); have GE128 := Aside0.mk ((by rw [hg]; exact (below_size qB) : w.heap.size ≤ gb128)); replace HB := Aside0.mk (below_step qB hb); clear hb hbox hg; have hcz72_0 : w71.cell? ⟨gb128, 0, none⟩ = some (.string (⟨#[]⟩ : ByteArray)) := (blk_cell BK128.out 0).trans rfl; have hcz72_1 : w71.cell? ⟨gb128, 1, none⟩ = some (.slice none 0 0) := (blk_cell BK128.out 1).trans rfl; have hcz72_2 : w71.cell? ⟨gb128, 2, none⟩ = some (.slice none 0 0) := (blk_cell BK128.out 2).trans rfl; have hcz72_3 : w71.cell? ⟨gb128, 3, none⟩ = some (.string (⟨#[]⟩ : ByteArray)) := (blk_cell BK128.out 3).trans rfl; have hcz72_4 : w71.cell? ⟨gb128, 4, none⟩ = some (.bool false) := (blk_cell BK128.out 4).trans rfl; have hfz72_0 := blk_frozen BK128.out 0; have hfz72_1 := blk_frozen BK128.out 1; have hfz72_2 := blk_frozen BK128.out 2; have hfz72_3 := blk_frozen BK128.out 3; have hfz72_4 := blk_frozen BK128.out 4))
             have n0_ : Aside0 ((((((w71.setCell ⟨gb128, 0, none⟩ (.string ((rd_T55 l0 x10_1).f0))).setCell ⟨gb128, 1, none⟩ (.slice A127_1 ((rd_T55 l0 x10_1).f1).length c127_1)).setCell ⟨gb128, 2, none⟩ (.slice A127_2 ((rd_T55 l0 x10_1).f2).length c127_2)).setCell ⟨gb128, 3, none⟩ (.string ((rd_T55 l0 x10_1).f3))).setCell ⟨gb128, 4, none⟩ (.bool ((rd_T55 l0 x10_1).f4))).heap[gb128]? = some (.cells #[.string ((rd_T55 l0 x10_1).f0), .slice A127_1 ((rd_T55 l0 x10_1).f1).length c127_1, .slice A127_2 ((rd_T55 l0 x10_1).f2).length c127_2, .string ((rd_T55 l0 x10_1).f3), .bool ((rd_T55 l0 x10_1).f4)] 55 (0, 0))) := ⟨ze4⟩
             have n1_ : Aside0 (Below w.heap.size w (((((w71.setCell ⟨gb128, 0, none⟩ (.string ((rd_T55 l0 x10_1).f0))).setCell ⟨gb128, 1, none⟩ (.slice A127_1 ((rd_T55 l0 x10_1).f1).length c127_1)).setCell ⟨gb128, 2, none⟩ (.slice A127_2 ((rd_T55 l0 x10_1).f2).length c127_2)).setCell ⟨gb128, 3, none⟩ (.string ((rd_T55 l0 x10_1).f3))).setCell ⟨gb128, 4, none⟩ (.bool ((rd_T55 l0 x10_1).f4)))) := ⟨ze5⟩
             (try clear BK128)
             (try clear HB)
             generalize (((((w71.setCell ⟨gb128, 0, none⟩ (.string ((rd_T55 l0 x10_1).f0))).setCell ⟨gb128, 1, none⟩ (.slice A127_1 ((rd_T55 l0 x10_1).f1).length c127_1)).setCell ⟨gb128, 2, none⟩ (.slice A127_2 ((rd_T55 l0 x10_1).f2).length c127_2)).setCell ⟨gb128, 3, none⟩ (.string ((rd_T55 l0 x10_1).f3))).setCell ⟨gb128, 4, none⟩ (.bool ((rd_T55 l0 x10_1).f4))) = w73 at n0_ n1_ ⊢
             have BK128 := n0_
             have HB := n1_
             clear n0_ n1_
             replace BK128 := Aside0.mk (blk_drew BK128.out)
             replace HB := Aside0.mk (below_drew1 HB.out)
             refine start_ (n := 49) (S := fun w' => w'.cell? ⟨gb128, 0, none⟩ = some (.string ((rd_T55 l0 x10_1).f0)) ∧ w'.cell? ⟨gb128, 1, none⟩ = some (.slice A127_1 ((rd_T55 l0 x10_1).f1).length c127_1) ∧ w'.cell? ⟨gb128, 2, none⟩ = some (.slice A127_2 ((rd_T55 l0 x10_1).f2).length c127_2) ∧ w'.cell? ⟨gb128, 3, none⟩ = some (.string ((rd_T55 l0 x10_1).f3)) ∧ w'.cell? ⟨gb128, 4, none⟩ = some (.bool ((rd_T55 l0 x10_1).f4))) (ds := []) (tf 49 0) (by kernel_rfl) rfl rfl ⟨(blk_cell BK128.out 0).trans rfl, (blk_cell BK128.out 1).trans rfl, (blk_cell BK128.out 2).trans rfl, (blk_cell BK128.out 3).trans rfl, (blk_cell BK128.out 4).trans rfl⟩ (fun hHeld => ?_); refine with_tabW impl_UnitsOk.tab6 impl_UnitsOk.bits6 (fun HT_ HW_ => ?_)
             generalize w73.drew = w74 at BK128 HB hHeld ⊢
             refine qA 0 15 (tf 49 1) ?_
             refine qT 1 16 (tf 49 3) ?_
             refine one_ (i := 2) (N := some 17) (tf 49 7) rfl rfl (one_of HT_.out (by kernel_rfl)) (by decide) (fun K hK => ?_)
             refine goes_ Try.func51 (by kernel_rfl) rfl #[.string ((rd_T55 l0 x10_1).f0)] (by rfl) rfl rfl ze6 ?_
             with_reducible refine (impl_NameOk.calls k1 ((rd_T55 l0 x10_1).f0) true _ A6.out).mono ?_
             rintro e w' ⟨rfl, ⟨nd, rfl⟩⟩
             refine ⟨_, rfl, ?_⟩
             refine hK.out _ _ ⟨(blk_cell BK128.out 0).trans rfl, (blk_cell BK128.out 1).trans rfl, (blk_cell BK128.out 2).trans rfl, (blk_cell BK128.out 3).trans rfl, (blk_cell BK128.out 4).trans rfl⟩ (fun hHeld => ?_)
             clear hK K
             refine norm_ (a' := ?_) ?_ ?_
             rotate_left
             ·show Act.put _ (some 17) _ = _
              simp only [Act.put, sT, s0, sS, i64_w, i32_w]
              rfl
             refine qA 3 18 (tf 49 15) ?_
             refine qA 4 19 (tf 49 31) ?_
             refine qA 5 20 (tf 49 63) ?_
             refine qA 6 21 (tf 49 127) ?_
             refine qA 7 22 (tf 49 255) ?_
             refine qU 8 23 (tf 49 511) ?_
             refine qU 9 24 (tf 49 1023) ?_
             refine qU 10 25 (tf 49 2047) ?_
             refine qU 11 26 (tf 49 4095) ?_
             refine qU 12 27 (tf 49 8191) ?_
             refine qU 13 28 (tf 49 16383) ?_
             refine qU 14 29 (tf 49 32767) ?_
             refine qU 15 30 (tf 49 65535) ?_
             refine qU 16 31 (tf 49 131071) ?_
             refine qA 17 32 (tf 49 262143) ?_
             refine qA 18 33 (tf 49 524287) ?_
             refine qA 19 34 (tf 49 1048575) ?_
             refine qA 20 35 (tf 49 2097151) ?_
             refine qT 21 36 (tf 49 4194303) ?_
             refine qA 22 37 (tf 49 8388607) ?_
             refine qA 23 38 (tf 49 16777215) ?_
             refine qA 24 39 (tf 49 33554431) ?_
             refine qA 25 40 (tf 49 67108863) ?_
             refine qA 26 41 (tf 49 134217727) ?_
             refine qT 27 42 (tf 49 268435455) ?_
             refine qA 28 43 (tf 49 536870911) ?_
             refine qA 29 44 (tf 49 1073741823) ?_
             refine qA 30 45 (tf 49 2147483647) ?_
             refine qA 31 46 (tf 49 4294967295) ?_
             refine qA 32 47 (tf 49 8589934591) ?_
             refine qT 33 48 (tf 49 17179869183) ?_
             refine one_ (i := 34) (N := some 49) (tf 49 34359738367) rfl rfl (one_of HT_.out (by kernel_rfl)) (by decide) (fun K hK => ?_)
             refine goes_ Try.func52 (by kernel_rfl) rfl #[.slice A127_1 ((rd_T55 l0 x10_1).f1).length c127_1] (by rfl) rfl rfl ze6 ?_
             with_reducible refine (impl_namesUp.calls k1 _ _ ((rd_T55 l0 x10_1).f1) true _ ?side1 ?side2 A58.out).mono ?_
             (case side1 => exact ze8 HR127_1.out)
             (case side2 => exact HC127_1.out)
             rintro e w' ⟨rfl, ⟨nd, rfl⟩⟩
             refine ⟨_, rfl, ?_⟩
             refine hK.out _ _ ⟨(blk_cell BK128.out 0).trans rfl, (blk_cell BK128.out 1).trans rfl, (blk_cell BK128.out 2).trans rfl, (blk_cell BK128.out 3).trans rfl, (blk_cell BK128.out 4).trans rfl⟩ (fun hHeld => ?_)
             clear hK K
             refine norm_ (a' := ?_) ?_ ?_
             rotate_left
             ·show Act.put _ (some 49) _ = _
              simp only [Act.put, sT, s0, sS, i64_w, i32_w]
              rfl
             refine qA 35 50 (tf 49 68719476735) ?_
             refine qA 36 51 (tf 49 137438953471) ?_
             refine qA 37 52 (tf 49 274877906943) ?_
             refine qA 38 53 (tf 49 549755813887) ?_
             refine qT 39 54 (tf 49 1099511627775) ?_
             refine one_ (i := 40) (N := some 55) (tf 49 2199023255551) rfl rfl (one_of HT_.out (by kernel_rfl)) (by decide) (fun K hK => ?_)
             refine goes_ Try.func52 (by kernel_rfl) rfl #[.slice A127_2 ((rd_T55 l0 x10_1).f2).length c127_2] (by rfl) rfl rfl ze6 ?_
             with_reducible refine (impl_namesUp.calls k1 _ _ ((rd_T55 l0 x10_1).f2) false _ ?side1 ?side2 A60.out).mono ?_
             (case side1 => exact ze8 HR127_2.out)
             (case side2 => exact HC127_2.out)
             rintro e w' ⟨rfl, ⟨nd, rfl⟩⟩
             refine ⟨_, rfl, ?_⟩
             refine hK.out _ _ ⟨(blk_cell BK128.out 0).trans rfl, (blk_cell BK128.out 1).trans rfl, (blk_cell BK128.out 2).trans rfl, (blk_cell BK128.out 3).trans rfl, (blk_cell BK128.out 4).trans rfl⟩ (fun hHeld => ?_)
             clear hK K
             refine norm_ (a' := ?_) ?_ ?_
             rotate_left
             ·show Act.put _ (some 55) _ = _
              simp only [Act.put, sT, s0, sS, i64_w, i32_w]
              rfl
             refine qA 41 56 (tf 49 4398046511103) ?_
             refine qA 42 57 (tf 49 8796093022207) ?_
             refine qA 43 58 (tf 49 17592186044415) ?_
             refine qU 44 59 (tf 49 35184372088831) ?_
             refine qU 45 60 (tf 49 70368744177663) ?_
             refine qU 46 61 (tf 49 140737488355327) ?_
             refine qU 47 62 (tf 49 281474976710655) ?_
             refine qA 48 63 (tf 49 562949953421311) ?_
             refine done_ (done_of HT_.out (by kernel_rfl)) ?_
             try go_wp2
             go_ret
             exact ⟨ze0, ze5⟩
           ·replace c59 := Bool.eq_false_iff.mpr c59
            subst c59
            have H1 : (some false) = some r := by rw [if_neg (show ¬ (false = true) by decide)] at H; exact H
            clear H
            have H := H1
            clear H1
            obtain rfl := Option.some.inj H
            have p127 : 0 ≤ (x10_1 : Int) := of_decide_eq_true ze3
            have q127 : x10_1 < (l0.length : Int) := of_decide_eq_true ze3
            obtain ⟨ad127, A127_1, c127_1, A127_2, c127_2, e127, hx127_0, hx127_1, hx127_2, hx127_3, hx127_4, hl127_1, hi127_1, hl127_2, hi127_2⟩ := at_T55 HR0.out x10_1 p127 q127
            cases e127
            try (replace hx127_0 := (HB.out.cell (World.block_lt_of_cell? w _ hx127_0)).trans hx127_0)
            try (replace hx127_1 := (HB.out.cell (World.block_lt_of_cell? w _ hx127_1)).trans hx127_1)
            try (replace hx127_2 := (HB.out.cell (World.block_lt_of_cell? w _ hx127_2)).trans hx127_2)
            try (replace hx127_3 := (HB.out.cell (World.block_lt_of_cell? w _ hx127_3)).trans hx127_3)
            try (replace hx127_4 := (HB.out.cell (World.block_lt_of_cell? w _ hx127_4)).trans hx127_4)
            have HR127_1 := Aside0.mk hi127_1
            have HC127_1 := Aside0.mk hl127_1
            clear hi127_1 hl127_1
            have HR127_2 := Aside0.mk hi127_2
            have HC127_2 := Aside0.mk hl127_2
            clear hi127_2 hl127_2
            replace p127 := eq_true p127
            replace q127 := eq_true q127
            try go_wp2_with (first | ((with_reducible refine gate_dst (N := 4) rfl ?_); (try (refine gate_guard (by rfl) ?_; dsimp only)); refine box_event ?hg (N := 4) ?hd (cs := #[.string (⟨#[]⟩ : ByteArray), .slice none 0 0, .slice none 0 0, .string (⟨#[]⟩ : ByteArray), .bool false]) (t := 55) ?hr ?_; (case hd => rfl); (case hg => rfl); (case hr => first | (go_simp; done) | (go_simp; rfl)); intro gb128 hg w75 hbox hb; have BK128 := Aside0.mk (hbox); have GW128 := Aside0.mk ((by rw [hg]; exact (below_size qB) : w.heap.size ≤ gb128)); have GE128 := Aside0.mk ((by rw [hg]; exact (below_size qB) : w.heap.size ≤ gb128)); replace HB := Aside0.mk (below_step qB hb); clear hb hbox hg; have hcz76_0 : w75.cell? ⟨gb128, 0, none⟩ = some (.string (⟨#[]⟩ : ByteArray)) := (blk_cell BK128.out 0).trans rfl; have hcz76_1 : w75.cell? ⟨gb128, 1, none⟩ = some (.slice none 0 0) := (blk_cell BK128.out 1).trans rfl; have hcz76_2 : w75.cell? ⟨gb128, 2, none⟩ = some (.slice none 0 0) := (blk_cell BK128.out 2).trans rfl; have hcz76_3 : w75.cell? ⟨gb128, 3, none⟩ = some (.string (⟨#[]⟩ : ByteArray)) := (blk_cell BK128.out 3).trans rfl; have hcz76_4 : w75.cell? ⟨gb128, 4, none⟩ = some (.bool false) := (blk_cell BK128.out 4).trans rfl; have hfz76_0 := blk_frozen BK128.out 0; have hfz76_1 := blk_frozen BK128.out 1; have hfz76_2 := blk_frozen BK128.out 2; have hfz76_3 := blk_frozen BK128.out 3; have hfz76_4 := blk_frozen BK128.out 4))
            have n0_ : Aside0 ((((((w75.setCell ⟨gb128, 0, none⟩ (.string ((rd_T55 l0 x10_1).f0))).setCell ⟨gb128, 1, none⟩ (.slice A127_1 ((rd_T55 l0 x10_1).f1).length c127_1)).setCell ⟨gb128, 2, none⟩ (.slice A127_2 ((rd_T55 l0 x10_1).f2).length c127_2)).setCell ⟨gb128, 3, none⟩ (.string ((rd_T55 l0 x10_1).f3))).setCell ⟨gb128, 4, none⟩ (.bool ((rd_T55 l0 x10_1).f4))).heap[gb128]? = some (.cells #[.string ((rd_T55 l0 x10_1).f0), .slice A127_1 ((rd_T55 l0 x10_1).f1).length c127_1, .slice A127_2 ((rd_T55 l0 x10_1).f2).length c127_2, .string ((rd_T55 l0 x10_1).f3), .bool ((rd_T55 l0 x10_1).f4)] 55 (0, 0))) := ⟨ze4⟩
            have n1_ : Aside0 (Below w.heap.size w (((((w75.setCell ⟨gb128, 0, none⟩ (.string ((rd_T55 l0 x10_1).f0))).setCell ⟨gb128, 1, none⟩ (.slice A127_1 ((rd_T55 l0 x10_1).f1).length c127_1)).setCell ⟨gb128, 2, none⟩ (.slice A127_2 ((rd_T55 l0 x10_1).f2).length c127_2)).setCell ⟨gb128, 3, none⟩ (.string ((rd_T55 l0 x10_1).f3))).setCell ⟨gb128, 4, none⟩ (.bool ((rd_T55 l0 x10_1).f4)))) := ⟨ze5⟩
            (try clear BK128)
            (try clear HB)
            generalize (((((w75.setCell ⟨gb128, 0, none⟩ (.string ((rd_T55 l0 x10_1).f0))).setCell ⟨gb128, 1, none⟩ (.slice A127_1 ((rd_T55 l0 x10_1).f1).length c127_1)).setCell ⟨gb128, 2, none⟩ (.slice A127_2 ((rd_T55 l0 x10_1).f2).length c127_2)).setCell ⟨gb128, 3, none⟩ (.string ((rd_T55 l0 x10_1).f3))).setCell ⟨gb128, 4, none⟩ (.bool ((rd_T55 l0 x10_1).f4))) = w77 at n0_ n1_ ⊢
            have BK128 := n0_
            have HB := n1_
            clear n0_ n1_
            replace BK128 := Aside0.mk (blk_drew BK128.out)
            replace HB := Aside0.mk (below_drew1 HB.out)
            refine start_ (n := 49) (S := fun w' => w'.cell? ⟨gb128, 0, none⟩ = some (.string ((rd_T55 l0 x10_1).f0)) ∧ w'.cell? ⟨gb128, 1, none⟩ = some (.slice A127_1 ((rd_T55 l0 x10_1).f1).length c127_1) ∧ w'.cell? ⟨gb128, 2, none⟩ = some (.slice A127_2 ((rd_T55 l0 x10_1).f2).length c127_2) ∧ w'.cell? ⟨gb128, 3, none⟩ = some (.string ((rd_T55 l0 x10_1).f3)) ∧ w'.cell? ⟨gb128, 4, none⟩ = some (.bool ((rd_T55 l0 x10_1).f4))) (ds := []) (tf 49 0) (by kernel_rfl) rfl rfl ⟨(blk_cell BK128.out 0).trans rfl, (blk_cell BK128.out 1).trans rfl, (blk_cell BK128.out 2).trans rfl, (blk_cell BK128.out 3).trans rfl, (blk_cell BK128.out 4).trans rfl⟩ (fun hHeld => ?_); refine with_tabW impl_UnitsOk.tab6 impl_UnitsOk.bits6 (fun HT_ HW_ => ?_)
            generalize w77.drew = w78 at BK128 HB hHeld ⊢
            refine qA 0 15 (tf 49 1) ?_
            refine qT 1 16 (tf 49 3) ?_
            refine one_ (i := 2) (N := some 17) (tf 49 7) rfl rfl (one_of HT_.out (by kernel_rfl)) (by decide) (fun K hK => ?_)
            refine goes_ Try.func51 (by kernel_rfl) rfl #[.string ((rd_T55 l0 x10_1).f0)] (by rfl) rfl rfl ze6 ?_
            with_reducible refine (impl_NameOk.calls k1 ((rd_T55 l0 x10_1).f0) true _ A6.out).mono ?_
            rintro e w' ⟨rfl, ⟨nd, rfl⟩⟩
            refine ⟨_, rfl, ?_⟩
            refine hK.out _ _ ⟨(blk_cell BK128.out 0).trans rfl, (blk_cell BK128.out 1).trans rfl, (blk_cell BK128.out 2).trans rfl, (blk_cell BK128.out 3).trans rfl, (blk_cell BK128.out 4).trans rfl⟩ (fun hHeld => ?_)
            clear hK K
            refine norm_ (a' := ?_) ?_ ?_
            rotate_left
            ·show Act.put _ (some 17) _ = _
             simp only [Act.put, sT, s0, sS, i64_w, i32_w]
             rfl
            refine qA 3 18 (tf 49 15) ?_
            refine qA 4 19 (tf 49 31) ?_
            refine qA 5 20 (tf 49 63) ?_
            refine qA 6 21 (tf 49 127) ?_
            refine qA 7 22 (tf 49 255) ?_
            refine qU 8 23 (tf 49 511) ?_
            refine qU 9 24 (tf 49 1023) ?_
            refine qU 10 25 (tf 49 2047) ?_
            refine qU 11 26 (tf 49 4095) ?_
            refine qU 12 27 (tf 49 8191) ?_
            refine qU 13 28 (tf 49 16383) ?_
            refine qU 14 29 (tf 49 32767) ?_
            refine qU 15 30 (tf 49 65535) ?_
            refine qU 16 31 (tf 49 131071) ?_
            refine qA 17 32 (tf 49 262143) ?_
            refine qA 18 33 (tf 49 524287) ?_
            refine qA 19 34 (tf 49 1048575) ?_
            refine qA 20 35 (tf 49 2097151) ?_
            refine qT 21 36 (tf 49 4194303) ?_
            refine qA 22 37 (tf 49 8388607) ?_
            refine qA 23 38 (tf 49 16777215) ?_
            refine qA 24 39 (tf 49 33554431) ?_
            refine qA 25 40 (tf 49 67108863) ?_
            refine qA 26 41 (tf 49 134217727) ?_
            refine qT 27 42 (tf 49 268435455) ?_
            refine qA 28 43 (tf 49 536870911) ?_
            refine qA 29 44 (tf 49 1073741823) ?_
            refine qA 30 45 (tf 49 2147483647) ?_
            refine qA 31 46 (tf 49 4294967295) ?_
            refine qA 32 47 (tf 49 8589934591) ?_
            refine qT 33 48 (tf 49 17179869183) ?_
            refine one_ (i := 34) (N := some 49) (tf 49 34359738367) rfl rfl (one_of HT_.out (by kernel_rfl)) (by decide) (fun K hK => ?_)
            refine goes_ Try.func52 (by kernel_rfl) rfl #[.slice A127_1 ((rd_T55 l0 x10_1).f1).length c127_1] (by rfl) rfl rfl ze6 ?_
            with_reducible refine (impl_namesUp.calls k1 _ _ ((rd_T55 l0 x10_1).f1) false _ ?side1 ?side2 A58.out).mono ?_
            (case side1 => exact ze8 HR127_1.out)
            (case side2 => exact HC127_1.out)
            rintro e w' ⟨rfl, ⟨nd, rfl⟩⟩
            refine ⟨_, rfl, ?_⟩
            refine hK.out _ _ ⟨(blk_cell BK128.out 0).trans rfl, (blk_cell BK128.out 1).trans rfl, (blk_cell BK128.out 2).trans rfl, (blk_cell BK128.out 3).trans rfl, (blk_cell BK128.out 4).trans rfl⟩ (fun hHeld => ?_)
            clear hK K
            refine norm_ (a' := ?_) ?_ ?_
            rotate_left
            ·show Act.put _ (some 49) _ = _
             simp only [Act.put, sT, s0, sS, i64_w, i32_w]
             rfl
            refine qA 35 50 (tf 49 68719476735) ?_
            refine qA 36 51 (tf 49 137438953471) ?_
            refine qA 37 52 (tf 49 274877906943) ?_
            refine qU 38 53 (tf 49 549755813887) ?_
            refine qU 39 54 (tf 49 1099511627775) ?_
            refine qU 40 55 (tf 49 2199023255551) ?_
            refine qU 41 56 (tf 49 4398046511103) ?_
            refine qA 42 57 (tf 49 8796093022207) ?_
            refine qA 43 58 (tf 49 17592186044415) ?_
            refine qU 44 59 (tf 49 35184372088831) ?_
            refine qU 45 60 (tf 49 70368744177663) ?_
            refine qU 46 61 (tf 49 140737488355327) ?_
            refine qU 47 62 (tf 49 281474976710655) ?_
            refine qA 48 63 (tf 49 562949953421311) ?_
            refine done_ (done_of HT_.out (by kernel_rfl)) ?_
            try go_wp2
            go_ret
            exact ⟨ze0, ze5⟩
       ·replace c7 := Bool.eq_false_iff.mpr c7
        subst c7
        have H1 : (some false) = some r := by rw [if_neg (show ¬ (false = true) by decide)] at H; exact H
        clear H
        have H := H1
        clear H1
        obtain rfl := Option.some.inj H
        have p127 : 0 ≤ (x10_1 : Int) := of_decide_eq_true ze3
        have q127 : x10_1 < (l0.length : Int) := of_decide_eq_true ze3
        obtain ⟨ad127, A127_1, c127_1, A127_2, c127_2, e127, hx127_0, hx127_1, hx127_2, hx127_3, hx127_4, hl127_1, hi127_1, hl127_2, hi127_2⟩ := at_T55 HR0.out x10_1 p127 q127
        cases e127
        try (replace hx127_0 := (HB.out.cell (World.block_lt_of_cell? w _ hx127_0)).trans hx127_0)
        try (replace hx127_1 := (HB.out.cell (World.block_lt_of_cell? w _ hx127_1)).trans hx127_1)
        try (replace hx127_2 := (HB.out.cell (World.block_lt_of_cell? w _ hx127_2)).trans hx127_2)
        try (replace hx127_3 := (HB.out.cell (World.block_lt_of_cell? w _ hx127_3)).trans hx127_3)
        try (replace hx127_4 := (HB.out.cell (World.block_lt_of_cell? w _ hx127_4)).trans hx127_4)
        have HR127_1 := Aside0.mk hi127_1
        have HC127_1 := Aside0.mk hl127_1
        clear hi127_1 hl127_1
        have HR127_2 := Aside0.mk hi127_2
        have HC127_2 := Aside0.mk hl127_2
        clear hi127_2 hl127_2
        replace p127 := eq_true p127
        replace q127 := eq_true q127
        try go_wp2_with (first | ((with_reducible refine gate_dst (N := 4) rfl ?_); (try (refine gate_guard (by rfl) ?_; dsimp only)); refine box_event ?hg (N := 4) ?hd (cs := #[.string (⟨#[]⟩ : ByteArray), .slice none 0 0, .slice none 0 0, .string (⟨#[]⟩ : ByteArray), .bool false]) (t := 55) ?hr ?_; (case hd => rfl); (case hg => rfl); (case hr => first | (go_simp; done) | (go_simp; rfl)); intro gb128 hg w79 hbox hb; have BK128 := Aside0.mk (hbox); have GW128 := Aside0.mk ((by rw [hg]; exact (below_size qB) : w.heap.size ≤ gb128)); have GE128 := Aside0.mk ((by rw [hg]; exact (below_size qB) : w.heap.size ≤ gb128)); replace HB := Aside0.mk (below_step qB hb); clear hb hbox hg; have hcz80_0 : w79.cell? ⟨gb128, 0, none⟩ = some (.string (⟨#[]⟩ : ByteArray)) := (blk_cell BK128.out 0).trans rfl; have hcz80_1 : w79.cell? ⟨gb128, 1, none⟩ = some (.slice none 0 0) := (blk_cell BK128.out 1).trans rfl; have hcz80_2 : w79.cell? ⟨gb128, 2, none⟩ = some (.slice none 0 0) := (blk_cell BK128.out 2).trans rfl; have hcz80_3 : w79.cell? ⟨gb128, 3, none⟩ = some (.string (⟨#[]⟩ : ByteArray)) := (blk_cell BK128.out 3).trans rfl; have hcz80_4 : w79.cell? ⟨gb128, 4, none⟩ = some (.bool false) := (blk_cell BK128.out 4).trans rfl; have hfz80_0 := blk_frozen BK128.out 0; have hfz80_1 := blk_frozen BK128.out 1; have hfz80_2 := blk_frozen BK128.out 2; have hfz80_3 := blk_frozen BK128.out 3; have hfz80_4 := blk_frozen BK128.out 4))
        have n0_ : Aside0 ((((((w79.setCell ⟨gb128, 0, none⟩ (.string ((rd_T55 l0 x10_1).f0))).setCell ⟨gb128, 1, none⟩ (.slice A127_1 ((rd_T55 l0 x10_1).f1).length c127_1)).setCell ⟨gb128, 2, none⟩ (.slice A127_2 ((rd_T55 l0 x10_1).f2).length c127_2)).setCell ⟨gb128, 3, none⟩ (.string ((rd_T55 l0 x10_1).f3))).setCell ⟨gb128, 4, none⟩ (.bool ((rd_T55 l0 x10_1).f4))).heap[gb128]? = some (.cells #[.string ((rd_T55 l0 x10_1).f0), .slice A127_1 ((rd_T55 l0 x10_1).f1).length c127_1, .slice A127_2 ((rd_T55 l0 x10_1).f2).length c127_2, .string ((rd_T55 l0 x10_1).f3), .bool ((rd_T55 l0 x10_1).f4)] 55 (0, 0))) := ⟨ze4⟩
        have n1_ : Aside0 (Below w.heap.size w (((((w79.setCell ⟨gb128, 0, none⟩ (.string ((rd_T55 l0 x10_1).f0))).setCell ⟨gb128, 1, none⟩ (.slice A127_1 ((rd_T55 l0 x10_1).f1).length c127_1)).setCell ⟨gb128, 2, none⟩ (.slice A127_2 ((rd_T55 l0 x10_1).f2).length c127_2)).setCell ⟨gb128, 3, none⟩ (.string ((rd_T55 l0 x10_1).f3))).setCell ⟨gb128, 4, none⟩ (.bool ((rd_T55 l0 x10_1).f4)))) := ⟨ze5⟩
        (try clear BK128)
        (try clear HB)
        generalize (((((w79.setCell ⟨gb128, 0, none⟩ (.string ((rd_T55 l0 x10_1).f0))).setCell ⟨gb128, 1, none⟩ (.slice A127_1 ((rd_T55 l0 x10_1).f1).length c127_1)).setCell ⟨gb128, 2, none⟩ (.slice A127_2 ((rd_T55 l0 x10_1).f2).length c127_2)).setCell ⟨gb128, 3, none⟩ (.string ((rd_T55 l0 x10_1).f3))).setCell ⟨gb128, 4, none⟩ (.bool ((rd_T55 l0 x10_1).f4))) = w81 at n0_ n1_ ⊢
        have BK128 := n0_
        have HB := n1_
        clear n0_ n1_
        replace BK128 := Aside0.mk (blk_drew BK128.out)
        replace HB := Aside0.mk (below_drew1 HB.out)
        refine start_ (n := 49) (S := fun w' => w'.cell? ⟨gb128, 0, none⟩ = some (.string ((rd_T55 l0 x10_1).f0)) ∧ w'.cell? ⟨gb128, 1, none⟩ = some (.slice A127_1 ((rd_T55 l0 x10_1).f1).length c127_1) ∧ w'.cell? ⟨gb128, 2, none⟩ = some (.slice A127_2 ((rd_T55 l0 x10_1).f2).length c127_2) ∧ w'.cell? ⟨gb128, 3, none⟩ = some (.string ((rd_T55 l0 x10_1).f3)) ∧ w'.cell? ⟨gb128, 4, none⟩ = some (.bool ((rd_T55 l0 x10_1).f4))) (ds := []) (tf 49 0) (by kernel_rfl) rfl rfl ⟨(blk_cell BK128.out 0).trans rfl, (blk_cell BK128.out 1).trans rfl, (blk_cell BK128.out 2).trans rfl, (blk_cell BK128.out 3).trans rfl, (blk_cell BK128.out 4).trans rfl⟩ (fun hHeld => ?_); refine with_tabW impl_UnitsOk.tab6 impl_UnitsOk.bits6 (fun HT_ HW_ => ?_)
        generalize w81.drew = w82 at BK128 HB hHeld ⊢
        refine qA 0 15 (tf 49 1) ?_
        refine qT 1 16 (tf 49 3) ?_
        refine one_ (i := 2) (N := some 17) (tf 49 7) rfl rfl (one_of HT_.out (by kernel_rfl)) (by decide) (fun K hK => ?_)
        refine goes_ Try.func51 (by kernel_rfl) rfl #[.string ((rd_T55 l0 x10_1).f0)] (by rfl) rfl rfl ze6 ?_
        with_reducible refine (impl_NameOk.calls k1 ((rd_T55 l0 x10_1).f0) false _ A6.out).mono ?_
        rintro e w' ⟨rfl, ⟨nd, rfl⟩⟩
        refine ⟨_, rfl, ?_⟩
        refine hK.out _ _ ⟨(blk_cell BK128.out 0).trans rfl, (blk_cell BK128.out 1).trans rfl, (blk_cell BK128.out 2).trans rfl, (blk_cell BK128.out 3).trans rfl, (blk_cell BK128.out 4).trans rfl⟩ (fun hHeld => ?_)
        clear hK K
        refine norm_ (a' := ?_) ?_ ?_
        rotate_left
        ·show Act.put _ (some 17) _ = _
         simp only [Act.put, sT, s0, sS, i64_w, i32_w]
         rfl
        refine qA 3 18 (tf 49 15) ?_
        refine qA 4 19 (tf 49 31) ?_
        refine qU 5 20 (tf 49 63) ?_
        refine qU 6 21 (tf 49 127) ?_
        refine qU 7 22 (tf 49 255) ?_
        refine qU 8 23 (tf 49 511) ?_
        refine qU 9 24 (tf 49 1023) ?_
        refine qU 10 25 (tf 49 2047) ?_
        refine qU 11 26 (tf 49 4095) ?_
        refine qU 12 27 (tf 49 8191) ?_
        refine qU 13 28 (tf 49 16383) ?_
        refine qU 14 29 (tf 49 32767) ?_
        refine qU 15 30 (tf 49 65535) ?_
        refine qU 16 31 (tf 49 131071) ?_
        refine qU 17 32 (tf 49 262143) ?_
        refine qA 18 33 (tf 49 524287) ?_
        refine qA 19 34 (tf 49 1048575) ?_
        refine qU 20 35 (tf 49 2097151) ?_
        refine qU 21 36 (tf 49 4194303) ?_
        refine qU 22 37 (tf 49 8388607) ?_
        refine qU 23 38 (tf 49 16777215) ?_
        refine qA 24 39 (tf 49 33554431) ?_
        refine qA 25 40 (tf 49 67108863) ?_
        refine qU 26 41 (tf 49 134217727) ?_
        refine qU 27 42 (tf 49 268435455) ?_
        refine qU 28 43 (tf 49 536870911) ?_
        refine qU 29 44 (tf 49 1073741823) ?_
        refine qA 30 45 (tf 49 2147483647) ?_
        refine qA 31 46 (tf 49 4294967295) ?_
        refine qU 32 47 (tf 49 8589934591) ?_
        refine qU 33 48 (tf 49 17179869183) ?_
        refine qU 34 49 (tf 49 34359738367) ?_
        refine qU 35 50 (tf 49 68719476735) ?_
        refine qA 36 51 (tf 49 137438953471) ?_
        refine qA 37 52 (tf 49 274877906943) ?_
        refine qU 38 53 (tf 49 549755813887) ?_
        refine qU 39 54 (tf 49 1099511627775) ?_
        refine qU 40 55 (tf 49 2199023255551) ?_
        refine qU 41 56 (tf 49 4398046511103) ?_
        refine qA 42 57 (tf 49 8796093022207) ?_
        refine qA 43 58 (tf 49 17592186044415) ?_
        refine qU 44 59 (tf 49 35184372088831) ?_
        refine qU 45 60 (tf 49 70368744177663) ?_
        refine qU 46 61 (tf 49 140737488355327) ?_
        refine qU 47 62 (tf 49 281474976710655) ?_
        refine qA 48 63 (tf 49 562949953421311) ?_
        refine done_ (done_of HT_.out (by kernel_rfl)) ?_
        try go_wp2
        go_ret
        exact ⟨ze0, ze5⟩
      ·rw [if_neg c5] at H
       exact absurd H (by simp)
     ·rw [if_neg c4] at H
      exact absurd H (by simp)
    ·rw [if_neg c3] at H
     have c3b0 : decide (x10_1 < (l0.length : Int)) = false := decide_eq_false c3
     clear c3
     obtain rfl := Option.some.inj H
     go_wp2
     go_ret
     exact ⟨ze0, ze1⟩

end Go.Proofs.Ytnahkojlamficaa.PFnFailing
