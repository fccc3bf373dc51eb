-- Laid by a program of this session: a turned copy of the kit's print, with contracts by hand beside.
import Derived.Test.YtnahkojlamficaaPFnFailingx0
import Derived.Test.YtnahkojlamficaaPFnFailingx1
namespace Go.Proofs.Ytnahkojlamficaa.PFnFailing
open Go.RowKit Go.Proofs.YtnahkojlamficaaW.PrintWords Go.Proofs.YtnahkojlamficaaW.PrintLast Go.Proofs.YtnahkojlamficaaW.PrintMore
theorem zc0 {X : Prop} (h : X := by first | rfl | (simp [errW_none, errW_some] <;> rfl) | (simp [*, errW_none, errW_some] <;> rfl)) : X := h
theorem zc1 {X : Prop} (h : X := by repeat (first | (with_reducible first | exact HB.out | apply below_alloc | apply pw_below_drewN | apply below_drew1) | exact HB.out)) : X := h
theorem zc2 {X : Prop} (h : X := by first | rfl | (simp; done) | (simp [*]; done)) : X := h
theorem zc3 {X : Prop} (h : X := by first | (with_reducible assumption) | assumption) : X := h
theorem zc4 {X : Prop} (h : X := by (with_reducible repeat (first | refine blk_drewN ?_ _ | refine blk_drew ?_ | refine blk_alloc ?_ _)); refine blk_put (cs := #[.string ((rd_T55 l0 x3_1).f0), .slice A107_1 ((rd_T55 l0 x3_1).f1).length c107_1, .slice A107_2 ((rd_T55 l0 x3_1).f2).length c107_2, .string ((rd_T55 l0 x3_1).f3), .bool false]) ?_ 4 _ rfl; (with_reducible repeat (first | refine blk_drewN ?_ _ | refine blk_drew ?_ | refine blk_alloc ?_ _)); refine blk_put (cs := #[.string ((rd_T55 l0 x3_1).f0), .slice A107_1 ((rd_T55 l0 x3_1).f1).length c107_1, .slice A107_2 ((rd_T55 l0 x3_1).f2).length c107_2, .string (⟨#[]⟩ : ByteArray), .bool false]) ?_ 3 _ rfl; (with_reducible repeat (first | refine blk_drewN ?_ _ | refine blk_drew ?_ | refine blk_alloc ?_ _)); refine blk_put (cs := #[.string ((rd_T55 l0 x3_1).f0), .slice A107_1 ((rd_T55 l0 x3_1).f1).length c107_1, .slice none 0 0, .string (⟨#[]⟩ : ByteArray), .bool false]) ?_ 2 _ rfl; (with_reducible repeat (first | refine blk_drewN ?_ _ | refine blk_drew ?_ | refine blk_alloc ?_ _)); refine blk_put (cs := #[.string ((rd_T55 l0 x3_1).f0), .slice none 0 0, .slice none 0 0, .string (⟨#[]⟩ : ByteArray), .bool false]) ?_ 1 _ rfl; (with_reducible repeat (first | refine blk_drewN ?_ _ | refine blk_drew ?_ | refine blk_alloc ?_ _)); refine blk_put (cs := #[.string (⟨#[]⟩ : ByteArray), .slice none 0 0, .slice none 0 0, .string (⟨#[]⟩ : ByteArray), .bool false]) ?_ 0 _ rfl; (with_reducible repeat (first | refine blk_drewN ?_ _ | refine blk_drew ?_ | refine blk_alloc ?_ _)); exact BK108.out) : X := h
theorem zc5 {X : Prop} (h : X := by repeat (first | (with_reducible first | exact HB.out | apply below_alloc | apply pw_below_drewN | apply below_drew1 | refine below_set ?_ GE108.out) | exact HB.out)) : X := h
theorem zc6 {X : Prop} (h : X := by (try simp only [List.map_toArray, List.map_cons, List.map_nil]); first | done | rfl | (simp only [List.length_drop, List.length_take]; rfl)) : X := h
theorem zc7 {A0 X : Prop} (a0 : A0) (h : A0 → X := by intro a0_; repeat (first | exact (Kd.C_below a0_ (qG GE108.out)) | (with_reducible refine Kd.C_alloc ?_ _) | (with_reducible refine Kd.C_drewN ?_ _) | (with_reducible refine Kd.C_drew ?_))) : X := h a0
theorem zc8 {X : Prop} (h : X := by first | rfl | (simp [errW_none, errW_some] <;> rfl) | (simp only [← hji8]; first | rfl | (simp [errW_none, errW_some] <;> rfl)) | (simp [*, errW_none, errW_some] <;> rfl)) : X := h
attribute [local go_sem] max2_int min2_int max_two min_two max_three min_three max_four min_four   -- for this text's walks alone
set_option linter.unusedVariables false
set_option linter.unusedSimpArgs false

/-! ### spec_UnitsOk: function 13 -/
def spec_UnitsOk.l0 : Nat → List (S55) → Int → Option (Bool)
 | 0, _, _ => none
 | k + 1, x0, x3 => if x3 < (x0.length : Int) then (if 0 ≤ x3 then ((spec_NameOk.f k ((rd_T55 x0 x3).f0)).bind fun t109 => (if t109 = true then (if x3 > 0 then (if 0 ≤ (wrap64 (x3 - 1)) then (if (wrap64 (x3 - 1)) < (x0.length : Int) then (if ((Op.bytesLess (((rd_T55 x0 (wrap64 (x3 - 1))).f0).toList) (((rd_T55 x0 x3).f0).toList)) = true) then ((spec_l17Ascending.f k ((rd_T55 x0 x3).f1)).bind fun t111 => (if t111 = true then ((spec_l17Ascending.f k ((rd_T55 x0 x3).f2)).bind fun t112 => (if t112 = true then ((spec_l8Names.f k ((rd_T55 x0 x3).f1)).bind fun t113 => (if t113 = true then ((spec_l8Names.f k ((rd_T55 x0 x3).f2)).bind fun t114 => (if t114 = true then (if (((rd_T55 x0 x3).f3).size : Int) > 4000 then (some false) else (spec_UnitsOk.l0 k x0 (wrap64 (x3 + 1)))) else (some false))) else (some false))) else (some false))) else (some false))) else (some false)) else (none)) else (none)) else ((spec_l17Ascending.f k ((rd_T55 x0 x3).f1)).bind fun t115 => (if t115 = true then ((spec_l17Ascending.f k ((rd_T55 x0 x3).f2)).bind fun t116 => (if t116 = true then ((spec_l8Names.f k ((rd_T55 x0 x3).f1)).bind fun t117 => (if t117 = true then ((spec_l8Names.f k ((rd_T55 x0 x3).f2)).bind fun t118 => (if t118 = true then (if (((rd_T55 x0 x3).f3).size : Int) > 4000 then (some false) else (spec_UnitsOk.l0 k x0 (wrap64 (x3 + 1)))) else (some false))) else (some false))) else (some false))) else (some false)))) else (some false))) else (none)) else (some true)
def spec_UnitsOk.f (k : Nat) (l0 : List (S55)) : Option (Bool) := if (l0.length : Int) > 100 then (some false) else (spec_UnitsOk.l0 k l0 0)
theorem spec_UnitsOk.mono_l : ∀ k, (∀ y0 y1, LeO (spec_UnitsOk.l0 k y0 y1) (spec_UnitsOk.l0 (k + 1) y0 y1))
 | 0 => fun _ _ r h => by simp [spec_UnitsOk.l0] at h
 | k + 1 => by
  have ih0 := spec_UnitsOk.mono_l k
  ·intro y0 y1
   unfold spec_UnitsOk.l0
   repeat' first
   | (with_reducible exact ih0 _ _)
   | (with_reducible exact spec_NameOk.mono _ _)
   | (with_reducible exact spec_l17Ascending.mono _ _)
   | (with_reducible exact spec_l8Names.mono _ _)
   | (with_reducible exact LeO.refl _)
   | (with_reducible exact LeO.none _)
   | (with_reducible refine LeO.ite ?_ ?_)
   | (with_reducible refine LeO.bind ?_ (fun _ => ?_))
   | exact ih0 _ _
   | exact spec_NameOk.mono _ _
   | exact spec_l17Ascending.mono _ _
   | exact spec_l8Names.mono _ _
   | exact LeO.none _
   | refine LeO.ite ?_ ?_
   | refine LeO.bind ?_ (fun _ => ?_)
theorem spec_UnitsOk.mono : ∀ a0 k, LeO (spec_UnitsOk.f k a0) (spec_UnitsOk.f (k + 1) a0) := by
 intro a0 k
 have ih0 := spec_UnitsOk.mono_l k
 unfold spec_UnitsOk.f
 repeat' first
   | (with_reducible exact ih0 _ _)
   | (with_reducible exact spec_NameOk.mono _ _)
   | (with_reducible exact spec_l17Ascending.mono _ _)
   | (with_reducible exact spec_l8Names.mono _ _)
   | (with_reducible exact LeO.refl _)
   | (with_reducible exact LeO.none _)
   | (with_reducible refine LeO.ite ?_ ?_)
   | (with_reducible refine LeO.bind ?_ (fun _ => ?_))
   | exact ih0 _ _
   | exact spec_NameOk.mono _ _
   | exact spec_l17Ascending.mono _ _
   | exact spec_l8Names.mono _ _
   | exact LeO.none _
   | refine LeO.ite ?_ ?_
   | refine LeO.bind ?_ (fun _ => ?_)
def spec_UnitsOk.T7 : Bool × List (List Nat × List Nat) := (true, [([], []), ([0], [0]), ([1], [1]), ([2], [2]), ([3, 2], [3]), ([4], [4]), ([5, 4], [4, 5]), ([6, 4, 4], [4, 6]), ([7], [7]), ([7], [7]), ([9, 7], [7, 9]), ([8, 10, 7], [7, 8, 10]), ([11, 7], [7, 11]), ([12, 7], [7, 12]), ([7], [7]), ([14, 7], [7, 14]), ([13, 15, 7], [7, 13, 15]), ([7, 16, 4], [4, 7, 16]), ([4, 17], [4, 17]), ([18, 7], [18]), ([19], [19]), ([20, 19], [19, 20]), ([21, 19, 19], [19, 21]), ([22, 19], [19, 22]), ([19, 23], [19, 23]), ([24, 22], [24]), ([25], [25]), ([26, 25], [25, 26]), ([27, 25, 25], [25, 27]), ([28, 25], [25, 28]), ([25, 29], [25, 29]), ([30, 28], [30]), ([31], [31]), ([32, 31], [31, 32]), ([33, 31, 31], [31, 33]), ([34, 31], [31, 34]), ([31, 35], [31, 35]), ([36, 34], [36]), ([37], [37]), ([38, 37], [37, 38]), ([39, 37, 37], [37, 39]), ([40, 37], [37, 40]), ([37, 41], [37, 41]), ([42, 40], [42]), ([43], [43]), ([44, 43], [43, 44]), ([45, 43], [43, 45]), ([46, 43], [43, 46]), ([43, 47], [43, 47])])
def spec_UnitsOk.B7 : List Nat := [0, 1, 3, 7, 15, 31, 63, 127, 255, 255, 767, 2047, 4095, 8191, 255, 16639, 65535, 131071, 262143, 524287, 1048575, 2097151, 4194303, 8388607, 16777215, 33554431, 67108863, 134217727, 268435455, 536870911, 1073741823, 2147483647, 4294967295, 8589934591, 17179869183, 34359738367, 68719476735, 137438953471, 274877906943, 549755813887, 1099511627775, 2199023255551, 4398046511103, 8796093022207, 17592186044415, 35184372088831, 70368744177663, 140737488355327, 281474976710655]
theorem spec_UnitsOk.tab7 : rtab .any (opsOf Try.f13 7) = spec_UnitsOk.T7 := by kernel_rfl
theorem spec_UnitsOk.bits7 : waitsOk spec_UnitsOk.T7.2 spec_UnitsOk.B7 = true := by kernel_rfl
set_option maxHeartbeats 8000000 in
set_option maxRecDepth 100000 in
theorem spec_UnitsOk.calls (k : Nat) (A0 : Option Addr) (c0 : Nat) (l0 : List (S55)) (r : Bool) (w : World) (hr0 : Kd.C k55 w A0 l0.length l0) (hc0 : l0.length ≤ c0) (h : spec_UnitsOk.f k l0 = some r) :
  Calls Try.prog 13 #[.slice A0 l0.length c0] w fun e w' => e = .returned (.bool r) ∧ Below w.heap.size w w' := by
 have hu55 := Try.underlying55
 have HR0 := Aside0.mk hr0
 have HC0 := Aside0.mk hc0
 clear hr0 hc0
 have HB := Aside0.mk (Below.refl w.heap.size w)
 have H : (if (l0.length : Int) > 100 then (some false) else (spec_UnitsOk.l0 k l0 0)) = some r := h
 clear h
 by_cases c2 : (l0.length : Int) > 100
 ·rw [if_pos c2] at H
  have c2b0 : decide (100 < (l0.length : Int)) = true := decide_eq_true c2
  have c2b1 : decide (100 < l0.length) = true := decide_eq_true (by omega)
  clear c2
  obtain rfl := Option.some.inj H
  go_enter Try.func13, Try.ntmps13
  go_wp2
  go_ret
  exact ⟨zc0, zc1⟩
 ·rw [if_neg c2] at H
  have c2b0 : decide (100 < (l0.length : Int)) = false := decide_eq_false c2
  have c2b1 : decide (100 < l0.length) = false := decide_eq_false (by omega)
  clear c2
  have H' := Aside0.mk H
  clear H
  go_enter Try.func13, Try.ntmps13
  go_wp2
  go_loopg [3] k (fun kq v3 w' => ∃ (x3_1 : Int), v3 = .int .i64 x3_1 ∧ Aside0 (spec_UnitsOk.l0 kq l0 x3_1 = some r) ∧ Aside0 (kq ≤ k) ∧ Aside0 (Below w.heap.size w w'))
  case atStart => exact ⟨(0), zc2, H', ⟨Nat.le_refl _⟩, ⟨zc1⟩⟩
  case round =>
   clear H'
   try clear c1
   try clear c2
   try clear c2b0
   try clear c2b1
   try clear p2
   obtain ⟨x3_1, rfl, HA, HK1, HB⟩ := hrel
   cases gk with
   | zero => exact absurd HA.out (by simp [spec_UnitsOk.l0])
   | succ k1 =>
    have H := HA.out
    clear HA
    simp only [spec_UnitsOk.l0] at H
    by_cases c3 : x3_1 < (l0.length : Int)
    ·rw [if_pos c3] at H
     have c3b0 : decide (x3_1 < (l0.length : Int)) = true := decide_eq_true c3
     clear c3
     by_cases c4 : 0 ≤ x3_1
     ·rw [if_pos c4] at H
      have c4b0 : decide (0 ≤ x3_1) = true := decide_eq_true c4
      clear c4
      replace H := Option.bind_eq_some_iff.mp H
      obtain ⟨t109, A50, H⟩ := H
      replace H : (if t109 = true then (if x3_1 > 0 then (if 0 ≤ (wrap64 (x3_1 - 1)) then (if (wrap64 (x3_1 - 1)) < (l0.length : Int) then (if ((Op.bytesLess (((rd_T55 l0 (wrap64 (x3_1 - 1))).f0).toList) (((rd_T55 l0 x3_1).f0).toList)) = true) then ((spec_l17Ascending.f k1 ((rd_T55 l0 x3_1).f1)).bind fun t111 => (if t111 = true then ((spec_l17Ascending.f k1 ((rd_T55 l0 x3_1).f2)).bind fun t112 => (if t112 = true then ((spec_l8Names.f k1 ((rd_T55 l0 x3_1).f1)).bind fun t113 => (if t113 = true then ((spec_l8Names.f k1 ((rd_T55 l0 x3_1).f2)).bind fun t114 => (if t114 = true then (if (((rd_T55 l0 x3_1).f3).size : Int) > 4000 then (some false) else (spec_UnitsOk.l0 k1 l0 (wrap64 (x3_1 + 1)))) else (some false))) else (some false))) else (some false))) else (some false))) else (some false)) else (none)) else (none)) else ((spec_l17Ascending.f k1 ((rd_T55 l0 x3_1).f1)).bind fun t115 => (if t115 = true then ((spec_l17Ascending.f k1 ((rd_T55 l0 x3_1).f2)).bind fun t116 => (if t116 = true then ((spec_l8Names.f k1 ((rd_T55 l0 x3_1).f1)).bind fun t117 => (if t117 = true then ((spec_l8Names.f k1 ((rd_T55 l0 x3_1).f2)).bind fun t118 => (if t118 = true then (if (((rd_T55 l0 x3_1).f3).size : Int) > 4000 then (some false) else (spec_UnitsOk.l0 k1 l0 (wrap64 (x3_1 + 1)))) else (some false))) else (some false))) else (some false))) else (some false)))) else (some false)) = some r := H
      have A5 := Aside0.mk A50
      clear A50
      by_cases c6 : t109 = true
      ·subst c6
       have H1 : (if x3_1 > 0 then (if 0 ≤ (wrap64 (x3_1 - 1)) then (if (wrap64 (x3_1 - 1)) < (l0.length : Int) then (if ((Op.bytesLess (((rd_T55 l0 (wrap64 (x3_1 - 1))).f0).toList) (((rd_T55 l0 x3_1).f0).toList)) = true) then ((spec_l17Ascending.f k1 ((rd_T55 l0 x3_1).f1)).bind fun t111 => (if t111 = true then ((spec_l17Ascending.f k1 ((rd_T55 l0 x3_1).f2)).bind fun t112 => (if t112 = true then ((spec_l8Names.f k1 ((rd_T55 l0 x3_1).f1)).bind fun t113 => (if t113 = true then ((spec_l8Names.f k1 ((rd_T55 l0 x3_1).f2)).bind fun t114 => (if t114 = true then (if (((rd_T55 l0 x3_1).f3).size : Int) > 4000 then (some false) else (spec_UnitsOk.l0 k1 l0 (wrap64 (x3_1 + 1)))) else (some false))) else (some false))) else (some false))) else (some false))) else (some false)) else (none)) else (none)) else ((spec_l17Ascending.f k1 ((rd_T55 l0 x3_1).f1)).bind fun t115 => (if t115 = true then ((spec_l17Ascending.f k1 ((rd_T55 l0 x3_1).f2)).bind fun t116 => (if t116 = true then ((spec_l8Names.f k1 ((rd_T55 l0 x3_1).f1)).bind fun t117 => (if t117 = true then ((spec_l8Names.f k1 ((rd_T55 l0 x3_1).f2)).bind fun t118 => (if t118 = true then (if (((rd_T55 l0 x3_1).f3).size : Int) > 4000 then (some false) else (spec_UnitsOk.l0 k1 l0 (wrap64 (x3_1 + 1)))) else (some false))) else (some false))) else (some false))) else (some false)))) = some r := by rw [if_pos rfl] at H; exact H
       clear H
       have H := H1
       clear H1
       by_cases c7 : x3_1 > 0
       ·rw [if_pos c7] at H
        have c7b0 : decide (0 < x3_1) = true := decide_eq_true c7
        clear c7
        obtain ⟨ji8, hji8⟩ : ∃ j_ : Int, (wrap64 (x3_1 - 1)) = j_ := ⟨_, rfl⟩
        replace H : (if 0 ≤ (ji8) then (if (ji8) < (l0.length : Int) then (if ((Op.bytesLess (((rd_T55 l0 (ji8)).f0).toList) (((rd_T55 l0 x3_1).f0).toList)) = true) then ((spec_l17Ascending.f k1 ((rd_T55 l0 x3_1).f1)).bind fun t111 => (if t111 = true then ((spec_l17Ascending.f k1 ((rd_T55 l0 x3_1).f2)).bind fun t112 => (if t112 = true then ((spec_l8Names.f k1 ((rd_T55 l0 x3_1).f1)).bind fun t113 => (if t113 = true then ((spec_l8Names.f k1 ((rd_T55 l0 x3_1).f2)).bind fun t114 => (if t114 = true then (if (((rd_T55 l0 x3_1).f3).size : Int) > 4000 then (some false) else (spec_UnitsOk.l0 k1 l0 (wrap64 (x3_1 + 1)))) else (some false))) else (some false))) else (some false))) else (some false))) else (some false)) else (none)) else (none)) = some r := by first | (rw [hji8] at H; exact H) | (simp only [hji8] at H ⊢; exact H)
        (try rw [hji8] at A5)
        have hji8w : (IntKind.i64.wrap (x3_1 - 1)) = ji8 := (i64_w _).trans hji8
        by_cases c9 : 0 ≤ (ji8)
        ·rw [if_pos c9] at H
         have c9b0 : decide (0 ≤ (ji8)) = true := decide_eq_true c9
         clear c9
         by_cases c10 : (ji8) < (l0.length : Int)
         ·rw [if_pos c10] at H
          have c10b0 : decide ((ji8) < (l0.length : Int)) = true := decide_eq_true c10
          clear c10
          by_cases c11 : ((Op.bytesLess (((rd_T55 l0 (ji8)).f0).toList) (((rd_T55 l0 x3_1).f0).toList)) = true)
          ·rw [if_pos c11] at H
           have c11b0 : (Op.bytesLess (((rd_T55 l0 (ji8)).f0).toList) (((rd_T55 l0 x3_1).f0).toList)) = true := c11
           clear c11
           replace H := Option.bind_eq_some_iff.mp H
           obtain ⟨t111, A120, H⟩ := H
           replace H : (if t111 = true then ((spec_l17Ascending.f k1 ((rd_T55 l0 x3_1).f2)).bind fun t112 => (if t112 = true then ((spec_l8Names.f k1 ((rd_T55 l0 x3_1).f1)).bind fun t113 => (if t113 = true then ((spec_l8Names.f k1 ((rd_T55 l0 x3_1).f2)).bind fun t114 => (if t114 = true then (if (((rd_T55 l0 x3_1).f3).size : Int) > 4000 then (some false) else (spec_UnitsOk.l0 k1 l0 (wrap64 (x3_1 + 1)))) else (some false))) else (some false))) else (some false))) else (some false)) = some r := H
           have A12 := Aside0.mk A120
           clear A120
           by_cases c13 : t111 = true
           ·subst c13
            have H1 : ((spec_l17Ascending.f k1 ((rd_T55 l0 x3_1).f2)).bind fun t112 => (if t112 = true then ((spec_l8Names.f k1 ((rd_T55 l0 x3_1).f1)).bind fun t113 => (if t113 = true then ((spec_l8Names.f k1 ((rd_T55 l0 x3_1).f2)).bind fun t114 => (if t114 = true then (if (((rd_T55 l0 x3_1).f3).size : Int) > 4000 then (some false) else (spec_UnitsOk.l0 k1 l0 (wrap64 (x3_1 + 1)))) else (some false))) else (some false))) else (some false))) = some r := by rw [if_pos rfl] at H; exact H
            clear H
            have H := H1
            clear H1
            replace H := Option.bind_eq_some_iff.mp H
            obtain ⟨t112, A140, H⟩ := H
            replace H : (if t112 = true then ((spec_l8Names.f k1 ((rd_T55 l0 x3_1).f1)).bind fun t113 => (if t113 = true then ((spec_l8Names.f k1 ((rd_T55 l0 x3_1).f2)).bind fun t114 => (if t114 = true then (if (((rd_T55 l0 x3_1).f3).size : Int) > 4000 then (some false) else (spec_UnitsOk.l0 k1 l0 (wrap64 (x3_1 + 1)))) else (some false))) else (some false))) else (some false)) = some r := H
            have A14 := Aside0.mk A140
            clear A140
            by_cases c15 : t112 = true
            ·subst c15
             have H1 : ((spec_l8Names.f k1 ((rd_T55 l0 x3_1).f1)).bind fun t113 => (if t113 = true then ((spec_l8Names.f k1 ((rd_T55 l0 x3_1).f2)).bind fun t114 => (if t114 = true then (if (((rd_T55 l0 x3_1).f3).size : Int) > 4000 then (some false) else (spec_UnitsOk.l0 k1 l0 (wrap64 (x3_1 + 1)))) else (some false))) else (some false))) = some r := by rw [if_pos rfl] at H; exact H
             clear H
             have H := H1
             clear H1
             replace H := Option.bind_eq_some_iff.mp H
             obtain ⟨t113, A160, H⟩ := H
             replace H : (if t113 = true then ((spec_l8Names.f k1 ((rd_T55 l0 x3_1).f2)).bind fun t114 => (if t114 = true then (if (((rd_T55 l0 x3_1).f3).size : Int) > 4000 then (some false) else (spec_UnitsOk.l0 k1 l0 (wrap64 (x3_1 + 1)))) else (some false))) else (some false)) = some r := H
             have A16 := Aside0.mk A160
             clear A160
             by_cases c17 : t113 = true
             ·subst c17
              have H1 : ((spec_l8Names.f k1 ((rd_T55 l0 x3_1).f2)).bind fun t114 => (if t114 = true then (if (((rd_T55 l0 x3_1).f3).size : Int) > 4000 then (some false) else (spec_UnitsOk.l0 k1 l0 (wrap64 (x3_1 + 1)))) else (some false))) = some r := by rw [if_pos rfl] at H; exact H
              clear H
              have H := H1
              clear H1
              replace H := Option.bind_eq_some_iff.mp H
              obtain ⟨t114, A180, H⟩ := H
              replace H : (if t114 = true then (if (((rd_T55 l0 x3_1).f3).size : Int) > 4000 then (some false) else (spec_UnitsOk.l0 k1 l0 (wrap64 (x3_1 + 1)))) else (some false)) = some r := H
              have A18 := Aside0.mk A180
              clear A180
              by_cases c19 : t114 = true
              ·subst c19
               have H1 : (if (((rd_T55 l0 x3_1).f3).size : Int) > 4000 then (some false) else (spec_UnitsOk.l0 k1 l0 (wrap64 (x3_1 + 1)))) = some r := by rw [if_pos rfl] at H; exact H
               clear H
               have H := H1
               clear H1
               by_cases c20 : (((rd_T55 l0 x3_1).f3).size : Int) > 4000
               ·rw [if_pos c20] at H
                have c20b0 : decide (4000 < (((rd_T55 l0 x3_1).f3).size : Int)) = true := decide_eq_true c20
                have c20b1 : decide (4000 < ((rd_T55 l0 x3_1).f3).size) = true := decide_eq_true (by omega)
                clear c20
                obtain rfl := Option.some.inj H
                have p107 : 0 ≤ (x3_1 : Int) := of_decide_eq_true zc3
                have q107 : x3_1 < (l0.length : Int) := of_decide_eq_true zc3
                obtain ⟨ad107, A107_1, c107_1, A107_2, c107_2, e107, hx107_0, hx107_1, hx107_2, hx107_3, hx107_4, hl107_1, hi107_1, hl107_2, hi107_2⟩ := at_T55 HR0.out x3_1 p107 q107
                cases e107
                try (replace hx107_0 := (HB.out.cell (World.block_lt_of_cell? w _ hx107_0)).trans hx107_0)
                try (replace hx107_1 := (HB.out.cell (World.block_lt_of_cell? w _ hx107_1)).trans hx107_1)
                try (replace hx107_2 := (HB.out.cell (World.block_lt_of_cell? w _ hx107_2)).trans hx107_2)
                try (replace hx107_3 := (HB.out.cell (World.block_lt_of_cell? w _ hx107_3)).trans hx107_3)
                try (replace hx107_4 := (HB.out.cell (World.block_lt_of_cell? w _ hx107_4)).trans hx107_4)
                have HR107_1 := Aside0.mk hi107_1
                have HC107_1 := Aside0.mk hl107_1
                clear hi107_1 hl107_1
                have HR107_2 := Aside0.mk hi107_2
                have HC107_2 := Aside0.mk hl107_2
                clear hi107_2 hl107_2
                replace p107 := eq_true p107
                replace q107 := eq_true q107
                try go_wp2_with (first | ((with_reducible refine gate_dst (N := 4) rfl ?_); (try (refine gate_guard (by rfl) ?_; dsimp only)); refine box_event ?hg (N := 4) ?hd (cs := #[.string (⟨#[]⟩ : ByteArray), .slice none 0 0, .slice none 0 0, .string (⟨#[]⟩ : ByteArray), .bool false]) (t := 55) ?hr ?_; (case hd => rfl); (case hg => rfl); (case hr => first | (go_simp; done) | (go_simp; rfl)); intro gb108 hg w21 hbox hb; have BK108 := Aside0.mk (hbox); have GW108 := Aside0.mk ((by rw [hg]; exact (below_size qB) : w.heap.size ≤ gb108)); have GE108 := Aside0.mk ((by rw [hg]; exact (below_size qB) : w.heap.size ≤ gb108)); replace HB := Aside0.mk (below_step qB hb); clear hb hbox hg; have hcz22_0 : w21.cell? ⟨gb108, 0, none⟩ = some (.string (⟨#[]⟩ : ByteArray)) := (blk_cell BK108.out 0).trans rfl; have hcz22_1 : w21.cell? ⟨gb108, 1, none⟩ = some (.slice none 0 0) := (blk_cell BK108.out 1).trans rfl; have hcz22_2 : w21.cell? ⟨gb108, 2, none⟩ = some (.slice none 0 0) := (blk_cell BK108.out 2).trans rfl; have hcz22_3 : w21.cell? ⟨gb108, 3, none⟩ = some (.string (⟨#[]⟩ : ByteArray)) := (blk_cell BK108.out 3).trans rfl; have hcz22_4 : w21.cell? ⟨gb108, 4, none⟩ = some (.bool false) := (blk_cell BK108.out 4).trans rfl; have hfz22_0 := blk_frozen BK108.out 0; have hfz22_1 := blk_frozen BK108.out 1; have hfz22_2 := blk_frozen BK108.out 2; have hfz22_3 := blk_frozen BK108.out 3; have hfz22_4 := blk_frozen BK108.out 4))
                have n0_ : Aside0 ((((((w21.setCell ⟨gb108, 0, none⟩ (.string ((rd_T55 l0 x3_1).f0))).setCell ⟨gb108, 1, none⟩ (.slice A107_1 ((rd_T55 l0 x3_1).f1).length c107_1)).setCell ⟨gb108, 2, none⟩ (.slice A107_2 ((rd_T55 l0 x3_1).f2).length c107_2)).setCell ⟨gb108, 3, none⟩ (.string ((rd_T55 l0 x3_1).f3))).setCell ⟨gb108, 4, none⟩ (.bool ((rd_T55 l0 x3_1).f4))).heap[gb108]? = some (.cells #[.string ((rd_T55 l0 x3_1).f0), .slice A107_1 ((rd_T55 l0 x3_1).f1).length c107_1, .slice A107_2 ((rd_T55 l0 x3_1).f2).length c107_2, .string ((rd_T55 l0 x3_1).f3), .bool ((rd_T55 l0 x3_1).f4)] 55 (0, 0))) := ⟨zc4⟩
                have n1_ : Aside0 (Below w.heap.size w (((((w21.setCell ⟨gb108, 0, none⟩ (.string ((rd_T55 l0 x3_1).f0))).setCell ⟨gb108, 1, none⟩ (.slice A107_1 ((rd_T55 l0 x3_1).f1).length c107_1)).setCell ⟨gb108, 2, none⟩ (.slice A107_2 ((rd_T55 l0 x3_1).f2).length c107_2)).setCell ⟨gb108, 3, none⟩ (.string ((rd_T55 l0 x3_1).f3))).setCell ⟨gb108, 4, none⟩ (.bool ((rd_T55 l0 x3_1).f4)))) := ⟨zc5⟩
                (try clear BK108)
                (try clear HB)
                generalize (((((w21.setCell ⟨gb108, 0, none⟩ (.string ((rd_T55 l0 x3_1).f0))).setCell ⟨gb108, 1, none⟩ (.slice A107_1 ((rd_T55 l0 x3_1).f1).length c107_1)).setCell ⟨gb108, 2, none⟩ (.slice A107_2 ((rd_T55 l0 x3_1).f2).length c107_2)).setCell ⟨gb108, 3, none⟩ (.string ((rd_T55 l0 x3_1).f3))).setCell ⟨gb108, 4, none⟩ (.bool ((rd_T55 l0 x3_1).f4))) = w23 at n0_ n1_ ⊢
                have BK108 := n0_
                have HB := n1_
                clear n0_ n1_
                replace BK108 := Aside0.mk (blk_drew BK108.out)
                replace HB := Aside0.mk (below_drew1 HB.out)
                have p110 : 0 ≤ ((ji8) : Int) := of_decide_eq_true zc3
                have q110 : (ji8) < (l0.length : Int) := of_decide_eq_true zc3
                obtain ⟨ad110, A110_1, c110_1, A110_2, c110_2, e110, hx110_0, hx110_1, hx110_2, hx110_3, hx110_4, hl110_1, hi110_1, hl110_2, hi110_2⟩ := at_T55 HR0.out (ji8) p110 q110
                have hw110_4 := hx110_4
                have hw110_3 := hx110_3
                have hw110_2 := hx110_2
                have hw110_1 := hx110_1
                have hw110_0 := hx110_0
                obtain rfl : ad107 = ad110 := (by injection e110)
                try (replace hx110_0 := (HB.out.cell (World.block_lt_of_cell? w _ hx110_0)).trans hx110_0)
                try (replace hx110_1 := (HB.out.cell (World.block_lt_of_cell? w _ hx110_1)).trans hx110_1)
                try (replace hx110_2 := (HB.out.cell (World.block_lt_of_cell? w _ hx110_2)).trans hx110_2)
                try (replace hx110_3 := (HB.out.cell (World.block_lt_of_cell? w _ hx110_3)).trans hx110_3)
                try (replace hx110_4 := (HB.out.cell (World.block_lt_of_cell? w _ hx110_4)).trans hx110_4)
                have HR110_1 := Aside0.mk hi110_1
                have HC110_1 := Aside0.mk hl110_1
                clear hi110_1 hl110_1
                have HR110_2 := Aside0.mk hi110_2
                have HC110_2 := Aside0.mk hl110_2
                clear hi110_2 hl110_2
                replace p110 := eq_true p110
                replace q110 := eq_true q110
                refine start_ (n := 49) (S := fun w' => w'.cell? ⟨gb108, 0, none⟩ = some (.string ((rd_T55 l0 x3_1).f0)) ∧ w'.cell? ⟨gb108, 1, none⟩ = some (.slice A107_1 ((rd_T55 l0 x3_1).f1).length c107_1) ∧ w'.cell? ⟨gb108, 2, none⟩ = some (.slice A107_2 ((rd_T55 l0 x3_1).f2).length c107_2) ∧ w'.cell? ⟨gb108, 3, none⟩ = some (.string ((rd_T55 l0 x3_1).f3)) ∧ w'.cell? ⟨gb108, 4, none⟩ = some (.bool ((rd_T55 l0 x3_1).f4)) ∧ w'.cell? (ad107.add (((ji8)).toNat * 5)) = some (.string ((rd_T55 l0 (ji8)).f0)) ∧ w'.cell? ⟨(ad107.add (((ji8)).toNat * 5)).block, (ad107.add (((ji8)).toNat * 5)).off + 1, none⟩ = some (.slice A110_1 ((rd_T55 l0 (ji8)).f1).length c110_1) ∧ w'.cell? ⟨(ad107.add (((ji8)).toNat * 5)).block, (ad107.add (((ji8)).toNat * 5)).off + 2, none⟩ = some (.slice A110_2 ((rd_T55 l0 (ji8)).f2).length c110_2) ∧ w'.cell? ⟨(ad107.add (((ji8)).toNat * 5)).block, (ad107.add (((ji8)).toNat * 5)).off + 3, none⟩ = some (.string ((rd_T55 l0 (ji8)).f3)) ∧ w'.cell? ⟨(ad107.add (((ji8)).toNat * 5)).block, (ad107.add (((ji8)).toNat * 5)).off + 4, none⟩ = some (.bool ((rd_T55 l0 (ji8)).f4))) (ds := []) (tf 49 0) (by kernel_rfl) rfl rfl ⟨(blk_cell BK108.out 0).trans rfl, (blk_cell BK108.out 1).trans rfl, (blk_cell BK108.out 2).trans rfl, (blk_cell BK108.out 3).trans rfl, (blk_cell BK108.out 4).trans rfl, ((HB.out.cell (World.block_lt_of_cell? w _ hw110_0)).trans hw110_0), ((HB.out.cell (World.block_lt_of_cell? w _ hw110_1)).trans hw110_1), ((HB.out.cell (World.block_lt_of_cell? w _ hw110_2)).trans hw110_2), ((HB.out.cell (World.block_lt_of_cell? w _ hw110_3)).trans hw110_3), ((HB.out.cell (World.block_lt_of_cell? w _ hw110_4)).trans hw110_4)⟩ (fun hHeld => ?_); refine with_tabW spec_UnitsOk.tab7 spec_UnitsOk.bits7 (fun HT_ HW_ => ?_)
                generalize w23.drew = w24 at BK108 HB HR110_1 HR110_2 hx110_0 hx110_1 hx110_2 hx110_3 hx110_4 hHeld ⊢
                refine qA 0 18 (tf 49 1) ?_
                refine qT 1 19 (tf 49 3) ?_
                refine one_ (i := 2) (N := some 20) (tf 49 7) rfl rfl (one_of HT_.out (by kernel_rfl)) (by decide) (fun K hK => ?_)
                refine goes_ Try.func47 (by kernel_rfl) rfl #[.string ((rd_T55 l0 x3_1).f0)] (by rfl) rfl rfl zc6 ?_
                with_reducible refine (spec_NameOk.calls k1 ((rd_T55 l0 x3_1).f0) true _ A5.out).mono ?_
                rintro e w' ⟨rfl, ⟨nd, rfl⟩⟩
                refine ⟨_, rfl, ?_⟩
                refine hK.out _ _ ⟨(blk_cell BK108.out 0).trans rfl, (blk_cell BK108.out 1).trans rfl, (blk_cell BK108.out 2).trans rfl, (blk_cell BK108.out 3).trans rfl, (blk_cell BK108.out 4).trans rfl, ((HB.out.cell (World.block_lt_of_cell? w _ hw110_0)).trans hw110_0), ((HB.out.cell (World.block_lt_of_cell? w _ hw110_1)).trans hw110_1), ((HB.out.cell (World.block_lt_of_cell? w _ hw110_2)).trans hw110_2), ((HB.out.cell (World.block_lt_of_cell? w _ hw110_3)).trans hw110_3), ((HB.out.cell (World.block_lt_of_cell? w _ hw110_4)).trans hw110_4)⟩ (fun hHeld => ?_)
                clear hK K
                refine norm_ (a' := ?_) ?_ ?_
                rotate_left
                ·show Act.put _ (some 20) _ = _
                 simp only [Act.put, sT, s0, sS, i64_w, i32_w]
                 rfl
                refine qA 3 21 (tf 49 15) ?_
                refine qA 4 22 (tf 49 31) ?_
                refine qA 5 23 (tf 49 63) ?_
                refine qA 6 24 (tf 49 127) ?_
                refine qA 7 25 (tf 49 255) ?_
                refine qA 8 26 (tf 49 511) ?_
                refine qA 9 27 (tf 49 1023) ?_
                refine qA 10 28 (tf 49 2047) ?_
                refine qA 11 29 (tf 49 4095) ?_
                refine qA 12 30 (tf 49 8191) ?_
                refine qA 14 32 (tf 49 24575) ?_
                refine qT 13 31 (tf 49 32767) ?_
                refine qT 15 33 (tf 49 65535) ?_
                refine qA 16 34 (tf 49 131071) ?_
                refine qA 17 35 (tf 49 262143) ?_
                refine qA 18 36 (tf 49 524287) ?_
                refine qA 19 37 (tf 49 1048575) ?_
                refine qA 20 38 (tf 49 2097151) ?_
                refine qT 21 39 (tf 49 4194303) ?_
                refine one_ (i := 22) (N := some 40) (tf 49 8388607) rfl rfl (one_of HT_.out (by kernel_rfl)) (by decide) (fun K hK => ?_)
                refine goes_ Try.func48 (by kernel_rfl) rfl #[.slice A107_1 ((rd_T55 l0 x3_1).f1).length c107_1] (by rfl) rfl rfl zc6 ?_
                with_reducible refine (spec_l17Ascending.calls k1 _ _ ((rd_T55 l0 x3_1).f1) true _ ?side1 ?side2 A12.out).mono ?_
                (case side1 => exact zc7 HR107_1.out)
                (case side2 => exact HC107_1.out)
                rintro e w' ⟨rfl, ⟨nd, rfl⟩⟩
                refine ⟨_, rfl, ?_⟩
                refine hK.out _ _ ⟨(blk_cell BK108.out 0).trans rfl, (blk_cell BK108.out 1).trans rfl, (blk_cell BK108.out 2).trans rfl, (blk_cell BK108.out 3).trans rfl, (blk_cell BK108.out 4).trans rfl, ((HB.out.cell (World.block_lt_of_cell? w _ hw110_0)).trans hw110_0), ((HB.out.cell (World.block_lt_of_cell? w _ hw110_1)).trans hw110_1), ((HB.out.cell (World.block_lt_of_cell? w _ hw110_2)).trans hw110_2), ((HB.out.cell (World.block_lt_of_cell? w _ hw110_3)).trans hw110_3), ((HB.out.cell (World.block_lt_of_cell? w _ hw110_4)).trans hw110_4)⟩ (fun hHeld => ?_)
                clear hK K
                refine norm_ (a' := ?_) ?_ ?_
                rotate_left
                ·show Act.put _ (some 40) _ = _
                 simp only [Act.put, sT, s0, sS, i64_w, i32_w]
                 rfl
                refine qA 23 41 (tf 49 16777215) ?_
                refine qA 24 42 (tf 49 33554431) ?_
                refine qA 25 43 (tf 49 67108863) ?_
                refine qA 26 44 (tf 49 134217727) ?_
                refine qT 27 45 (tf 49 268435455) ?_
                refine one_ (i := 28) (N := some 46) (tf 49 536870911) rfl rfl (one_of HT_.out (by kernel_rfl)) (by decide) (fun K hK => ?_)
                refine goes_ Try.func48 (by kernel_rfl) rfl #[.slice A107_2 ((rd_T55 l0 x3_1).f2).length c107_2] (by rfl) rfl rfl zc6 ?_
                with_reducible refine (spec_l17Ascending.calls k1 _ _ ((rd_T55 l0 x3_1).f2) true _ ?side1 ?side2 A14.out).mono ?_
                (case side1 => exact zc7 HR107_2.out)
                (case side2 => exact HC107_2.out)
                rintro e w' ⟨rfl, ⟨nd, rfl⟩⟩
                refine ⟨_, rfl, ?_⟩
                refine hK.out _ _ ⟨(blk_cell BK108.out 0).trans rfl, (blk_cell BK108.out 1).trans rfl, (blk_cell BK108.out 2).trans rfl, (blk_cell BK108.out 3).trans rfl, (blk_cell BK108.out 4).trans rfl, ((HB.out.cell (World.block_lt_of_cell? w _ hw110_0)).trans hw110_0), ((HB.out.cell (World.block_lt_of_cell? w _ hw110_1)).trans hw110_1), ((HB.out.cell (World.block_lt_of_cell? w _ hw110_2)).trans hw110_2), ((HB.out.cell (World.block_lt_of_cell? w _ hw110_3)).trans hw110_3), ((HB.out.cell (World.block_lt_of_cell? w _ hw110_4)).trans hw110_4)⟩ (fun hHeld => ?_)
                clear hK K
                refine norm_ (a' := ?_) ?_ ?_
                rotate_left
                ·show Act.put _ (some 46) _ = _
                 simp only [Act.put, sT, s0, sS, i64_w, i32_w]
                 rfl
                refine qA 29 47 (tf 49 1073741823) ?_
                refine qA 30 48 (tf 49 2147483647) ?_
                refine qA 31 49 (tf 49 4294967295) ?_
                refine qA 32 50 (tf 49 8589934591) ?_
                refine qT 33 51 (tf 49 17179869183) ?_
                refine one_ (i := 34) (N := some 52) (tf 49 34359738367) rfl rfl (one_of HT_.out (by kernel_rfl)) (by decide) (fun K hK => ?_)
                refine goes_ Try.func49 (by kernel_rfl) rfl #[.slice A107_1 ((rd_T55 l0 x3_1).f1).length c107_1] (by rfl) rfl rfl zc6 ?_
                with_reducible refine (spec_l8Names.calls k1 _ _ ((rd_T55 l0 x3_1).f1) true _ ?side1 ?side2 A16.out).mono ?_
                (case side1 => exact zc7 HR107_1.out)
                (case side2 => exact HC107_1.out)
                rintro e w' ⟨rfl, ⟨nd, rfl⟩⟩
                refine ⟨_, rfl, ?_⟩
                refine hK.out _ _ ⟨(blk_cell BK108.out 0).trans rfl, (blk_cell BK108.out 1).trans rfl, (blk_cell BK108.out 2).trans rfl, (blk_cell BK108.out 3).trans rfl, (blk_cell BK108.out 4).trans rfl, ((HB.out.cell (World.block_lt_of_cell? w _ hw110_0)).trans hw110_0), ((HB.out.cell (World.block_lt_of_cell? w _ hw110_1)).trans hw110_1), ((HB.out.cell (World.block_lt_of_cell? w _ hw110_2)).trans hw110_2), ((HB.out.cell (World.block_lt_of_cell? w _ hw110_3)).trans hw110_3), ((HB.out.cell (World.block_lt_of_cell? w _ hw110_4)).trans hw110_4)⟩ (fun hHeld => ?_)
                clear hK K
                refine norm_ (a' := ?_) ?_ ?_
                rotate_left
                ·show Act.put _ (some 52) _ = _
                 simp only [Act.put, sT, s0, sS, i64_w, i32_w]
                 rfl
                refine qA 35 53 (tf 49 68719476735) ?_
                refine qA 36 54 (tf 49 137438953471) ?_
                refine qA 37 55 (tf 49 274877906943) ?_
                refine qA 38 56 (tf 49 549755813887) ?_
                refine qT 39 57 (tf 49 1099511627775) ?_
                refine one_ (i := 40) (N := some 58) (tf 49 2199023255551) rfl rfl (one_of HT_.out (by kernel_rfl)) (by decide) (fun K hK => ?_)
                refine goes_ Try.func49 (by kernel_rfl) rfl #[.slice A107_2 ((rd_T55 l0 x3_1).f2).length c107_2] (by rfl) rfl rfl zc6 ?_
                with_reducible refine (spec_l8Names.calls k1 _ _ ((rd_T55 l0 x3_1).f2) true _ ?side1 ?side2 A18.out).mono ?_
                (case side1 => exact zc7 HR107_2.out)
                (case side2 => exact HC107_2.out)
                rintro e w' ⟨rfl, ⟨nd, rfl⟩⟩
                refine ⟨_, rfl, ?_⟩
                refine hK.out _ _ ⟨(blk_cell BK108.out 0).trans rfl, (blk_cell BK108.out 1).trans rfl, (blk_cell BK108.out 2).trans rfl, (blk_cell BK108.out 3).trans rfl, (blk_cell BK108.out 4).trans rfl, ((HB.out.cell (World.block_lt_of_cell? w _ hw110_0)).trans hw110_0), ((HB.out.cell (World.block_lt_of_cell? w _ hw110_1)).trans hw110_1), ((HB.out.cell (World.block_lt_of_cell? w _ hw110_2)).trans hw110_2), ((HB.out.cell (World.block_lt_of_cell? w _ hw110_3)).trans hw110_3), ((HB.out.cell (World.block_lt_of_cell? w _ hw110_4)).trans hw110_4)⟩ (fun hHeld => ?_)
                clear hK K
                refine norm_ (a' := ?_) ?_ ?_
                rotate_left
                ·show Act.put _ (some 58) _ = _
                 simp only [Act.put, sT, s0, sS, i64_w, i32_w]
                 rfl
                refine qA 41 59 (tf 49 4398046511103) ?_
                refine qA 42 60 (tf 49 8796093022207) ?_
                refine qA 43 61 (tf 49 17592186044415) ?_
                refine qA 44 62 (tf 49 35184372088831) ?_
                refine qT 45 63 (tf 49 70368744177663) ?_
                refine qA 46 64 (tf 49 140737488355327) ?_
                refine qA 47 65 (tf 49 281474976710655) ?_
                refine qA 48 66 (tf 49 562949953421311) ?_
                refine done_ (done_of HT_.out (by kernel_rfl)) ?_
                try go_wp2
                go_ret
                exact ⟨zc8, zc5⟩
               ·rw [if_neg c20] at H
                have c20b0 : decide (4000 < (((rd_T55 l0 x3_1).f3).size : Int)) = false := decide_eq_false c20
                have c20b1 : decide (4000 < ((rd_T55 l0 x3_1).f3).size) = false := decide_eq_false (by omega)
                clear c20
                have H' := Aside0.mk H
                clear H
                have p107 : 0 ≤ (x3_1 : Int) := of_decide_eq_true zc3
                have q107 : x3_1 < (l0.length : Int) := of_decide_eq_true zc3
                obtain ⟨ad107, A107_1, c107_1, A107_2, c107_2, e107, hx107_0, hx107_1, hx107_2, hx107_3, hx107_4, hl107_1, hi107_1, hl107_2, hi107_2⟩ := at_T55 HR0.out x3_1 p107 q107
                cases e107
                try (replace hx107_0 := (HB.out.cell (World.block_lt_of_cell? w _ hx107_0)).trans hx107_0)
                try (replace hx107_1 := (HB.out.cell (World.block_lt_of_cell? w _ hx107_1)).trans hx107_1)
                try (replace hx107_2 := (HB.out.cell (World.block_lt_of_cell? w _ hx107_2)).trans hx107_2)
                try (replace hx107_3 := (HB.out.cell (World.block_lt_of_cell? w _ hx107_3)).trans hx107_3)
                try (replace hx107_4 := (HB.out.cell (World.block_lt_of_cell? w _ hx107_4)).trans hx107_4)
                have HR107_1 := Aside0.mk hi107_1
                have HC107_1 := Aside0.mk hl107_1
                clear hi107_1 hl107_1
                have HR107_2 := Aside0.mk hi107_2
                have HC107_2 := Aside0.mk hl107_2
                clear hi107_2 hl107_2
                replace p107 := eq_true p107
                replace q107 := eq_true q107
                try go_wp2_with (first | ((with_reducible refine gate_dst (N := 4) rfl ?_); (try (refine gate_guard (by rfl) ?_; dsimp only)); refine box_event ?hg (N := 4) ?hd (cs := #[.string (⟨#[]⟩ : ByteArray), .slice none 0 0, .slice none 0 0, .string (⟨#[]⟩ : ByteArray), .bool false]) (t := 55) ?hr ?_; (case hd => rfl); (case hg => rfl); (case hr => first | (go_simp; done) | (go_simp; rfl)); intro gb108 hg w25 hbox hb; have BK108 := Aside0.mk (hbox); have GW108 := Aside0.mk ((by rw [hg]; exact (below_size qB) : w.heap.size ≤ gb108)); have GE108 := Aside0.mk ((by rw [hg]; exact (below_size qB) : w.heap.size ≤ gb108)); replace HB := Aside0.mk (below_step qB hb); clear hb hbox hg; have hcz26_0 : w25.cell? ⟨gb108, 0, none⟩ = some (.string (⟨#[]⟩ : ByteArray)) := (blk_cell BK108.out 0).trans rfl; have hcz26_1 : w25.cell? ⟨gb108, 1, none⟩ = some (.slice none 0 0) := (blk_cell BK108.out 1).trans rfl; have hcz26_2 : w25.cell? ⟨gb108, 2, none⟩ = some (.slice none 0 0) := (blk_cell BK108.out 2).trans rfl; have hcz26_3 : w25.cell? ⟨gb108, 3, none⟩ = some (.string (⟨#[]⟩ : ByteArray)) := (blk_cell BK108.out 3).trans rfl; have hcz26_4 : w25.cell? ⟨gb108, 4, none⟩ = some (.bool false) := (blk_cell BK108.out 4).trans rfl; have hfz26_0 := blk_frozen BK108.out 0; have hfz26_1 := blk_frozen BK108.out 1; have hfz26_2 := blk_frozen BK108.out 2; have hfz26_3 := blk_frozen BK108.out 3; have hfz26_4 := blk_frozen BK108.out 4))
                have n0_ : Aside0 ((((((w25.setCell ⟨gb108, 0, none⟩ (.string ((rd_T55 l0 x3_1).f0))).setCell ⟨gb108, 1, none⟩ (.slice A107_1 ((rd_T55 l0 x3_1).f1).length c107_1)).setCell ⟨gb108, 2, none⟩ (.slice A107_2 ((rd_T55 l0 x3_1).f2).length c107_2)).setCell ⟨gb108, 3, none⟩ (.string ((rd_T55 l0 x3_1).f3))).setCell ⟨gb108, 4, none⟩ (.bool ((rd_T55 l0 x3_1).f4))).heap[gb108]? = some (.cells #[.string ((rd_T55 l0 x3_1).f0), .slice A107_1 ((rd_T55 l0 x3_1).f1).length c107_1, .slice A107_2 ((rd_T55 l0 x3_1).f2).length c107_2, .string ((rd_T55 l0 x3_1).f3), .bool ((rd_T55 l0 x3_1).f4)] 55 (0, 0))) := ⟨zc4⟩
                have n1_ : Aside0 (Below w.heap.size w (((((w25.setCell ⟨gb108, 0, none⟩ (.string ((rd_T55 l0 x3_1).f0))).setCell ⟨gb108, 1, none⟩ (.slice A107_1 ((rd_T55 l0 x3_1).f1).length c107_1)).setCell ⟨gb108, 2, none⟩ (.slice A107_2 ((rd_T55 l0 x3_1).f2).length c107_2)).setCell ⟨gb108, 3, none⟩ (.string ((rd_T55 l0 x3_1).f3))).setCell ⟨gb108, 4, none⟩ (.bool ((rd_T55 l0 x3_1).f4)))) := ⟨zc5⟩
                (try clear BK108)
                (try clear HB)
                generalize (((((w25.setCell ⟨gb108, 0, none⟩ (.string ((rd_T55 l0 x3_1).f0))).setCell ⟨gb108, 1, none⟩ (.slice A107_1 ((rd_T55 l0 x3_1).f1).length c107_1)).setCell ⟨gb108, 2, none⟩ (.slice A107_2 ((rd_T55 l0 x3_1).f2).length c107_2)).setCell ⟨gb108, 3, none⟩ (.string ((rd_T55 l0 x3_1).f3))).setCell ⟨gb108, 4, none⟩ (.bool ((rd_T55 l0 x3_1).f4))) = w27 at n0_ n1_ ⊢
                have BK108 := n0_
                have HB := n1_
                clear n0_ n1_
                replace BK108 := Aside0.mk (blk_drew BK108.out)
                replace HB := Aside0.mk (below_drew1 HB.out)
                have p110 : 0 ≤ ((ji8) : Int) := of_decide_eq_true zc3
                have q110 : (ji8) < (l0.length : Int) := of_decide_eq_true zc3
                obtain ⟨ad110, A110_1, c110_1, A110_2, c110_2, e110, hx110_0, hx110_1, hx110_2, hx110_3, hx110_4, hl110_1, hi110_1, hl110_2, hi110_2⟩ := at_T55 HR0.out (ji8) p110 q110
                have hw110_4 := hx110_4
                have hw110_3 := hx110_3
                have hw110_2 := hx110_2
                have hw110_1 := hx110_1
                have hw110_0 := hx110_0
                obtain rfl : ad107 = ad110 := (by injection e110)
                try (replace hx110_0 := (HB.out.cell (World.block_lt_of_cell? w _ hx110_0)).trans hx110_0)
                try (replace hx110_1 := (HB.out.cell (World.block_lt_of_cell? w _ hx110_1)).trans hx110_1)
                try (replace hx110_2 := (HB.out.cell (World.block_lt_of_cell? w _ hx110_2)).trans hx110_2)
                try (replace hx110_3 := (HB.out.cell (World.block_lt_of_cell? w _ hx110_3)).trans hx110_3)
                try (replace hx110_4 := (HB.out.cell (World.block_lt_of_cell? w _ hx110_4)).trans hx110_4)
                have HR110_1 := Aside0.mk hi110_1
                have HC110_1 := Aside0.mk hl110_1
                clear hi110_1 hl110_1
                have HR110_2 := Aside0.mk hi110_2
                have HC110_2 := Aside0.mk hl110_2
                clear hi110_2 hl110_2
                replace p110 := eq_true p110
                replace q110 := eq_true q110
                refine start_ (n := 49) (S := fun w' => w'.cell? ⟨gb108, 0, none⟩ = some (.string ((rd_T55 l0 x3_1).f0)) ∧ w'.cell? ⟨gb108, 1, none⟩ = some (.slice A107_1 ((rd_T55 l0 x3_1).f1).length c107_1) ∧ w'.cell? ⟨gb108, 2, none⟩ = some (.slice A107_2 ((rd_T55 l0 x3_1).f2).length c107_2) ∧ w'.cell? ⟨gb108, 3, none⟩ = some (.string ((rd_T55 l0 x3_1).f3)) ∧ w'.cell? ⟨gb108, 4, none⟩ = some (.bool ((rd_T55 l0 x3_1).f4)) ∧ w'.cell? (ad107.add (((ji8)).toNat * 5)) = some (.string ((rd_T55 l0 (ji8)).f0)) ∧ w'.cell? ⟨(ad107.add (((ji8)).toNat * 5)).block, (ad107.add (((ji8)).toNat * 5)).off + 1, none⟩ = some (.slice A110_1 ((rd_T55 l0 (ji8)).f1).length c110_1) ∧ w'.cell? ⟨(ad107.add (((ji8)).toNat * 5)).block, (ad107.add (((ji8)).toNat * 5)).off + 2, none⟩ = some (.slice A110_2 ((rd_T55 l0 (ji8)).f2).length c110_2) ∧ w'.cell? ⟨(ad107.add (((ji8)).toNat * 5)).block, (ad107.add (((ji8)).toNat * 5)).off + 3, none⟩ = some (.string ((rd_T55 l0 (ji8)).f3)) ∧ w'.cell? ⟨(ad107.add (((ji8)).toNat * 5)).block, (ad107.add (((ji8)).toNat * 5)).off + 4, none⟩ = some (.bool ((rd_T55 l0 (ji8)).f4))) (ds := []) (tf 49 0) (by kernel_rfl) rfl rfl ⟨(blk_cell BK108.out 0).trans rfl, (blk_cell BK108.out 1).trans rfl, (blk_cell BK108.out 2).trans rfl, (blk_cell BK108.out 3).trans rfl, (blk_cell BK108.out 4).trans rfl, ((HB.out.cell (World.block_lt_of_cell? w _ hw110_0)).trans hw110_0), ((HB.out.cell (World.block_lt_of_cell? w _ hw110_1)).trans hw110_1), ((HB.out.cell (World.block_lt_of_cell? w _ hw110_2)).trans hw110_2), ((HB.out.cell (World.block_lt_of_cell? w _ hw110_3)).trans hw110_3), ((HB.out.cell (World.block_lt_of_cell? w _ hw110_4)).trans hw110_4)⟩ (fun hHeld => ?_); refine with_tabW spec_UnitsOk.tab7 spec_UnitsOk.bits7 (fun HT_ HW_ => ?_)
                generalize w27.drew = w28 at BK108 HB HR110_1 HR110_2 hx110_0 hx110_1 hx110_2 hx110_3 hx110_4 hHeld ⊢
                refine qA 0 18 (tf 49 1) ?_
                refine qT 1 19 (tf 49 3) ?_
                refine one_ (i := 2) (N := some 20) (tf 49 7) rfl rfl (one_of HT_.out (by kernel_rfl)) (by decide) (fun K hK => ?_)
                refine goes_ Try.func47 (by kernel_rfl) rfl #[.string ((rd_T55 l0 x3_1).f0)] (by rfl) rfl rfl zc6 ?_
                with_reducible refine (spec_NameOk.calls k1 ((rd_T55 l0 x3_1).f0) true _ A5.out).mono ?_
                rintro e w' ⟨rfl, ⟨nd, rfl⟩⟩
                refine ⟨_, rfl, ?_⟩
                refine hK.out _ _ ⟨(blk_cell BK108.out 0).trans rfl, (blk_cell BK108.out 1).trans rfl, (blk_cell BK108.out 2).trans rfl, (blk_cell BK108.out 3).trans rfl, (blk_cell BK108.out 4).trans rfl, ((HB.out.cell (World.block_lt_of_cell? w _ hw110_0)).trans hw110_0), ((HB.out.cell (World.block_lt_of_cell? w _ hw110_1)).trans hw110_1), ((HB.out.cell (World.block_lt_of_cell? w _ hw110_2)).trans hw110_2), ((HB.out.cell (World.block_lt_of_cell? w _ hw110_3)).trans hw110_3), ((HB.out.cell (World.block_lt_of_cell? w _ hw110_4)).trans hw110_4)⟩ (fun hHeld => ?_)
                clear hK K
                refine norm_ (a' := ?_) ?_ ?_
                rotate_left
                ·show Act.put _ (some 20) _ = _
                 simp only [Act.put, sT, s0, sS, i64_w, i32_w]
                 rfl
                refine qA 3 21 (tf 49 15) ?_
                refine qA 4 22 (tf 49 31) ?_
                refine qA 5 23 (tf 49 63) ?_
                refine qA 6 24 (tf 49 127) ?_
                refine qA 7 25 (tf 49 255) ?_
                refine qA 8 26 (tf 49 511) ?_
                refine qA 9 27 (tf 49 1023) ?_
                refine qA 10 28 (tf 49 2047) ?_
                refine qA 11 29 (tf 49 4095) ?_
                refine qA 12 30 (tf 49 8191) ?_
                refine qA 14 32 (tf 49 24575) ?_
                refine qT 13 31 (tf 49 32767) ?_
                refine qT 15 33 (tf 49 65535) ?_
                refine qA 16 34 (tf 49 131071) ?_
                refine qA 17 35 (tf 49 262143) ?_
                refine qA 18 36 (tf 49 524287) ?_
                refine qA 19 37 (tf 49 1048575) ?_
                refine qA 20 38 (tf 49 2097151) ?_
                refine qT 21 39 (tf 49 4194303) ?_
                refine one_ (i := 22) (N := some 40) (tf 49 8388607) rfl rfl (one_of HT_.out (by kernel_rfl)) (by decide) (fun K hK => ?_)
                refine goes_ Try.func48 (by kernel_rfl) rfl #[.slice A107_1 ((rd_T55 l0 x3_1).f1).length c107_1] (by rfl) rfl rfl zc6 ?_
                with_reducible refine (spec_l17Ascending.calls k1 _ _ ((rd_T55 l0 x3_1).f1) true _ ?side1 ?side2 A12.out).mono ?_
                (case side1 => exact zc7 HR107_1.out)
                (case side2 => exact HC107_1.out)
                rintro e w' ⟨rfl, ⟨nd, rfl⟩⟩
                refine ⟨_, rfl, ?_⟩
                refine hK.out _ _ ⟨(blk_cell BK108.out 0).trans rfl, (blk_cell BK108.out 1).trans rfl, (blk_cell BK108.out 2).trans rfl, (blk_cell BK108.out 3).trans rfl, (blk_cell BK108.out 4).trans rfl, ((HB.out.cell (World.block_lt_of_cell? w _ hw110_0)).trans hw110_0), ((HB.out.cell (World.block_lt_of_cell? w _ hw110_1)).trans hw110_1), ((HB.out.cell (World.block_lt_of_cell? w _ hw110_2)).trans hw110_2), ((HB.out.cell (World.block_lt_of_cell? w _ hw110_3)).trans hw110_3), ((HB.out.cell (World.block_lt_of_cell? w _ hw110_4)).trans hw110_4)⟩ (fun hHeld => ?_)
                clear hK K
                refine norm_ (a' := ?_) ?_ ?_
                rotate_left
                ·show Act.put _ (some 40) _ = _
                 simp only [Act.put, sT, s0, sS, i64_w, i32_w]
                 rfl
                refine qA 23 41 (tf 49 16777215) ?_
                refine qA 24 42 (tf 49 33554431) ?_
                refine qA 25 43 (tf 49 67108863) ?_
                refine qA 26 44 (tf 49 134217727) ?_
                refine qT 27 45 (tf 49 268435455) ?_
                refine one_ (i := 28) (N := some 46) (tf 49 536870911) rfl rfl (one_of HT_.out (by kernel_rfl)) (by decide) (fun K hK => ?_)
                refine goes_ Try.func48 (by kernel_rfl) rfl #[.slice A107_2 ((rd_T55 l0 x3_1).f2).length c107_2] (by rfl) rfl rfl zc6 ?_
                with_reducible refine (spec_l17Ascending.calls k1 _ _ ((rd_T55 l0 x3_1).f2) true _ ?side1 ?side2 A14.out).mono ?_
                (case side1 => exact zc7 HR107_2.out)
                (case side2 => exact HC107_2.out)
                rintro e w' ⟨rfl, ⟨nd, rfl⟩⟩
                refine ⟨_, rfl, ?_⟩
                refine hK.out _ _ ⟨(blk_cell BK108.out 0).trans rfl, (blk_cell BK108.out 1).trans rfl, (blk_cell BK108.out 2).trans rfl, (blk_cell BK108.out 3).trans rfl, (blk_cell BK108.out 4).trans rfl, ((HB.out.cell (World.block_lt_of_cell? w _ hw110_0)).trans hw110_0), ((HB.out.cell (World.block_lt_of_cell? w _ hw110_1)).trans hw110_1), ((HB.out.cell (World.block_lt_of_cell? w _ hw110_2)).trans hw110_2), ((HB.out.cell (World.block_lt_of_cell? w _ hw110_3)).trans hw110_3), ((HB.out.cell (World.block_lt_of_cell? w _ hw110_4)).trans hw110_4)⟩ (fun hHeld => ?_)
                clear hK K
                refine norm_ (a' := ?_) ?_ ?_
                rotate_left
                ·show Act.put _ (some 46) _ = _
                 simp only [Act.put, sT, s0, sS, i64_w, i32_w]
                 rfl
                refine qA 29 47 (tf 49 1073741823) ?_
                refine qA 30 48 (tf 49 2147483647) ?_
                refine qA 31 49 (tf 49 4294967295) ?_
                refine qA 32 50 (tf 49 8589934591) ?_
                refine qT 33 51 (tf 49 17179869183) ?_
                refine one_ (i := 34) (N := some 52) (tf 49 34359738367) rfl rfl (one_of HT_.out (by kernel_rfl)) (by decide) (fun K hK => ?_)
                refine goes_ Try.func49 (by kernel_rfl) rfl #[.slice A107_1 ((rd_T55 l0 x3_1).f1).length c107_1] (by rfl) rfl rfl zc6 ?_
                with_reducible refine (spec_l8Names.calls k1 _ _ ((rd_T55 l0 x3_1).f1) true _ ?side1 ?side2 A16.out).mono ?_
                (case side1 => exact zc7 HR107_1.out)
                (case side2 => exact HC107_1.out)
                rintro e w' ⟨rfl, ⟨nd, rfl⟩⟩
                refine ⟨_, rfl, ?_⟩
                refine hK.out _ _ ⟨(blk_cell BK108.out 0).trans rfl, (blk_cell BK108.out 1).trans rfl, (blk_cell BK108.out 2).trans rfl, (blk_cell BK108.out 3).trans rfl, (blk_cell BK108.out 4).trans rfl, ((HB.out.cell (World.block_lt_of_cell? w _ hw110_0)).trans hw110_0), ((HB.out.cell (World.block_lt_of_cell? w _ hw110_1)).trans hw110_1), ((HB.out.cell (World.block_lt_of_cell? w _ hw110_2)).trans hw110_2), ((HB.out.cell (World.block_lt_of_cell? w _ hw110_3)).trans hw110_3), ((HB.out.cell (World.block_lt_of_cell? w _ hw110_4)).trans hw110_4)⟩ (fun hHeld => ?_)
                clear hK K
                refine norm_ (a' := ?_) ?_ ?_
                rotate_left
                ·show Act.put _ (some 52) _ = _
                 simp only [Act.put, sT, s0, sS, i64_w, i32_w]
                 rfl
                refine qA 35 53 (tf 49 68719476735) ?_
                refine qA 36 54 (tf 49 137438953471) ?_
                refine qA 37 55 (tf 49 274877906943) ?_
                refine qA 38 56 (tf 49 549755813887) ?_
                refine qT 39 57 (tf 49 1099511627775) ?_
                refine one_ (i := 40) (N := some 58) (tf 49 2199023255551) rfl rfl (one_of HT_.out (by kernel_rfl)) (by decide) (fun K hK => ?_)
                refine goes_ Try.func49 (by kernel_rfl) rfl #[.slice A107_2 ((rd_T55 l0 x3_1).f2).length c107_2] (by rfl) rfl rfl zc6 ?_
                with_reducible refine (spec_l8Names.calls k1 _ _ ((rd_T55 l0 x3_1).f2) true _ ?side1 ?side2 A18.out).mono ?_
                (case side1 => exact zc7 HR107_2.out)
                (case side2 => exact HC107_2.out)
                rintro e w' ⟨rfl, ⟨nd, rfl⟩⟩
                refine ⟨_, rfl, ?_⟩
                refine hK.out _ _ ⟨(blk_cell BK108.out 0).trans rfl, (blk_cell BK108.out 1).trans rfl, (blk_cell BK108.out 2).trans rfl, (blk_cell BK108.out 3).trans rfl, (blk_cell BK108.out 4).trans rfl, ((HB.out.cell (World.block_lt_of_cell? w _ hw110_0)).trans hw110_0), ((HB.out.cell (World.block_lt_of_cell? w _ hw110_1)).trans hw110_1), ((HB.out.cell (World.block_lt_of_cell? w _ hw110_2)).trans hw110_2), ((HB.out.cell (World.block_lt_of_cell? w _ hw110_3)).trans hw110_3), ((HB.out.cell (World.block_lt_of_cell? w _ hw110_4)).trans hw110_4)⟩ (fun hHeld => ?_)
                clear hK K
                refine norm_ (a' := ?_) ?_ ?_
                rotate_left
                ·show Act.put _ (some 58) _ = _
                 simp only [Act.put, sT, s0, sS, i64_w, i32_w]
                 rfl
                refine qA 41 59 (tf 49 4398046511103) ?_
                refine qA 42 60 (tf 49 8796093022207) ?_
                refine qA 43 61 (tf 49 17592186044415) ?_
                refine qA 44 62 (tf 49 35184372088831) ?_
                refine qT 45 63 (tf 49 70368744177663) ?_
                refine qA 46 64 (tf 49 140737488355327) ?_
                refine qA 47 65 (tf 49 281474976710655) ?_
                refine qA 48 66 (tf 49 562949953421311) ?_
                refine done_ (done_of HT_.out (by kernel_rfl)) ?_
                try go_wp2
                go_roundg k1
                case measure => have := HK1.out; omega
                case rel => exact ⟨(wrap64 (x3_1 + 1)), zc2, H', ⟨by have := HK1.out; omega⟩, ⟨zc5⟩⟩
              ·replace c19 := Bool.eq_false_iff.mpr c19
               subst c19
               have H1 : (some false) = some r := by rw [if_neg (show ¬ (false = true) by decide)] at H; exact H
               clear H
               have H := H1
               clear H1
               obtain rfl := Option.some.inj H
               have p107 : 0 ≤ (x3_1 : Int) := of_decide_eq_true zc3
               have q107 : x3_1 < (l0.length : Int) := of_decide_eq_true zc3
               obtain ⟨ad107, A107_1, c107_1, A107_2, c107_2, e107, hx107_0, hx107_1, hx107_2, hx107_3, hx107_4, hl107_1, hi107_1, hl107_2, hi107_2⟩ := at_T55 HR0.out x3_1 p107 q107
               cases e107
               try (replace hx107_0 := (HB.out.cell (World.block_lt_of_cell? w _ hx107_0)).trans hx107_0)
               try (replace hx107_1 := (HB.out.cell (World.block_lt_of_cell? w _ hx107_1)).trans hx107_1)
               try (replace hx107_2 := (HB.out.cell (World.block_lt_of_cell? w _ hx107_2)).trans hx107_2)
               try (replace hx107_3 := (HB.out.cell (World.block_lt_of_cell? w _ hx107_3)).trans hx107_3)
               try (replace hx107_4 := (HB.out.cell (World.block_lt_of_cell? w _ hx107_4)).trans hx107_4)
               have HR107_1 := Aside0.mk hi107_1
               have HC107_1 := Aside0.mk hl107_1
               clear hi107_1 hl107_1
               have HR107_2 := Aside0.mk hi107_2
               have HC107_2 := Aside0.mk hl107_2
               clear hi107_2 hl107_2
               replace p107 := eq_true p107
               replace q107 := eq_true q107
               try go_wp2_with (first | ((with_reducible refine gate_dst (N := 4) rfl ?_); (try (refine gate_guard (by rfl) ?_; dsimp only)); refine box_event ?hg (N := 4) ?hd (cs := #[.string (⟨#[]⟩ : ByteArray), .slice none 0 0, .slice none 0 0, .string (⟨#[]⟩ : ByteArray), .bool false]) (t := 55) ?hr ?_; (case hd => rfl); (case hg => rfl); (case hr => first | (go_simp; done) | (go_simp; rfl)); intro gb108 hg w29 hbox hb; have BK108 := Aside0.mk (hbox); have GW108 := Aside0.mk ((by rw [hg]; exact (below_size qB) : w.heap.size ≤ gb108)); have GE108 := Aside0.mk ((by rw [hg]; exact (below_size qB) : w.heap.size ≤ gb108)); replace HB := Aside0.mk (below_step qB hb); clear hb hbox hg; have hcz30_0 : w29.cell? ⟨gb108, 0, none⟩ = some (.string (⟨#[]⟩ : ByteArray)) := (blk_cell BK108.out 0).trans rfl; have hcz30_1 : w29.cell? ⟨gb108, 1, none⟩ = some (.slice none 0 0) := (blk_cell BK108.out 1).trans rfl; have hcz30_2 : w29.cell? ⟨gb108, 2, none⟩ = some (.slice none 0 0) := (blk_cell BK108.out 2).trans rfl; have hcz30_3 : w29.cell? ⟨gb108, 3, none⟩ = some (.string (⟨#[]⟩ : ByteArray)) := (blk_cell BK108.out 3).trans rfl; have hcz30_4 : w29.cell? ⟨gb108, 4, none⟩ = some (.bool false) := (blk_cell BK108.out 4).trans rfl; have hfz30_0 := blk_frozen BK108.out 0; have hfz30_1 := blk_frozen BK108.out 1; have hfz30_2 := blk_frozen BK108.out 2; have hfz30_3 := blk_frozen BK108.out 3; have hfz30_4 := blk_frozen BK108.out 4))
               have n0_ : Aside0 ((((((w29.setCell ⟨gb108, 0, none⟩ (.string ((rd_T55 l0 x3_1).f0))).setCell ⟨gb108, 1, none⟩ (.slice A107_1 ((rd_T55 l0 x3_1).f1).length c107_1)).setCell ⟨gb108, 2, none⟩ (.slice A107_2 ((rd_T55 l0 x3_1).f2).length c107_2)).setCell ⟨gb108, 3, none⟩ (.string ((rd_T55 l0 x3_1).f3))).setCell ⟨gb108, 4, none⟩ (.bool ((rd_T55 l0 x3_1).f4))).heap[gb108]? = some (.cells #[.string ((rd_T55 l0 x3_1).f0), .slice A107_1 ((rd_T55 l0 x3_1).f1).length c107_1, .slice A107_2 ((rd_T55 l0 x3_1).f2).length c107_2, .string ((rd_T55 l0 x3_1).f3), .bool ((rd_T55 l0 x3_1).f4)] 55 (0, 0))) := ⟨zc4⟩
               have n1_ : Aside0 (Below w.heap.size w (((((w29.setCell ⟨gb108, 0, none⟩ (.string ((rd_T55 l0 x3_1).f0))).setCell ⟨gb108, 1, none⟩ (.slice A107_1 ((rd_T55 l0 x3_1).f1).length c107_1)).setCell ⟨gb108, 2, none⟩ (.slice A107_2 ((rd_T55 l0 x3_1).f2).length c107_2)).setCell ⟨gb108, 3, none⟩ (.string ((rd_T55 l0 x3_1).f3))).setCell ⟨gb108, 4, none⟩ (.bool ((rd_T55 l0 x3_1).f4)))) := ⟨zc5⟩
               (try clear BK108)
               (try clear HB)
               generalize (((((w29.setCell ⟨gb108, 0, none⟩ (.string ((rd_T55 l0 x3_1).f0))).setCell ⟨gb108, 1, none⟩ (.slice A107_1 ((rd_T55 l0 x3_1).f1).length c107_1)).setCell ⟨gb108, 2, none⟩ (.slice A107_2 ((rd_T55 l0 x3_1).f2).length c107_2)).setCell ⟨gb108, 3, none⟩ (.string ((rd_T55 l0 x3_1).f3))).setCell ⟨gb108, 4, none⟩ (.bool ((rd_T55 l0 x3_1).f4))) = w31 at n0_ n1_ ⊢
               have BK108 := n0_
               have HB := n1_
               clear n0_ n1_
               replace BK108 := Aside0.mk (blk_drew BK108.out)
               replace HB := Aside0.mk (below_drew1 HB.out)
               have p110 : 0 ≤ ((ji8) : Int) := of_decide_eq_true zc3
               have q110 : (ji8) < (l0.length : Int) := of_decide_eq_true zc3
               obtain ⟨ad110, A110_1, c110_1, A110_2, c110_2, e110, hx110_0, hx110_1, hx110_2, hx110_3, hx110_4, hl110_1, hi110_1, hl110_2, hi110_2⟩ := at_T55 HR0.out (ji8) p110 q110
               have hw110_4 := hx110_4
               have hw110_3 := hx110_3
               have hw110_2 := hx110_2
               have hw110_1 := hx110_1
               have hw110_0 := hx110_0
               obtain rfl : ad107 = ad110 := (by injection e110)
               try (replace hx110_0 := (HB.out.cell (World.block_lt_of_cell? w _ hx110_0)).trans hx110_0)
               try (replace hx110_1 := (HB.out.cell (World.block_lt_of_cell? w _ hx110_1)).trans hx110_1)
               try (replace hx110_2 := (HB.out.cell (World.block_lt_of_cell? w _ hx110_2)).trans hx110_2)
               try (replace hx110_3 := (HB.out.cell (World.block_lt_of_cell? w _ hx110_3)).trans hx110_3)
               try (replace hx110_4 := (HB.out.cell (World.block_lt_of_cell? w _ hx110_4)).trans hx110_4)
               have HR110_1 := Aside0.mk hi110_1
               have HC110_1 := Aside0.mk hl110_1
               clear hi110_1 hl110_1
               have HR110_2 := Aside0.mk hi110_2
               have HC110_2 := Aside0.mk hl110_2
               clear hi110_2 hl110_2
               replace p110 := eq_true p110
               replace q110 := eq_true q110
               refine start_ (n := 49) (S := fun w' => w'.cell? ⟨gb108, 0, none⟩ = some (.string ((rd_T55 l0 x3_1).f0)) ∧ w'.cell? ⟨gb108, 1, none⟩ = some (.slice A107_1 ((rd_T55 l0 x3_1).f1).length c107_1) ∧ w'.cell? ⟨gb108, 2, none⟩ = some (.slice A107_2 ((rd_T55 l0 x3_1).f2).length c107_2) ∧ w'.cell? ⟨gb108, 3, none⟩ = some (.string ((rd_T55 l0 x3_1).f3)) ∧ w'.cell? ⟨gb108, 4, none⟩ = some (.bool ((rd_T55 l0 x3_1).f4)) ∧ w'.cell? (ad107.add (((ji8)).toNat * 5)) = some (.string ((rd_T55 l0 (ji8)).f0)) ∧ w'.cell? ⟨(ad107.add (((ji8)).toNat * 5)).block, (ad107.add (((ji8)).toNat * 5)).off + 1, none⟩ = some (.slice A110_1 ((rd_T55 l0 (ji8)).f1).length c110_1) ∧ w'.cell? ⟨(ad107.add (((ji8)).toNat * 5)).block, (ad107.add (((ji8)).toNat * 5)).off + 2, none⟩ = some (.slice A110_2 ((rd_T55 l0 (ji8)).f2).length c110_2) ∧ w'.cell? ⟨(ad107.add (((ji8)).toNat * 5)).block, (ad107.add (((ji8)).toNat * 5)).off + 3, none⟩ = some (.string ((rd_T55 l0 (ji8)).f3)) ∧ w'.cell? ⟨(ad107.add (((ji8)).toNat * 5)).block, (ad107.add (((ji8)).toNat * 5)).off + 4, none⟩ = some (.bool ((rd_T55 l0 (ji8)).f4))) (ds := []) (tf 49 0) (by kernel_rfl) rfl rfl ⟨(blk_cell BK108.out 0).trans rfl, (blk_cell BK108.out 1).trans rfl, (blk_cell BK108.out 2).trans rfl, (blk_cell BK108.out 3).trans rfl, (blk_cell BK108.out 4).trans rfl, ((HB.out.cell (World.block_lt_of_cell? w _ hw110_0)).trans hw110_0), ((HB.out.cell (World.block_lt_of_cell? w _ hw110_1)).trans hw110_1), ((HB.out.cell (World.block_lt_of_cell? w _ hw110_2)).trans hw110_2), ((HB.out.cell (World.block_lt_of_cell? w _ hw110_3)).trans hw110_3), ((HB.out.cell (World.block_lt_of_cell? w _ hw110_4)).trans hw110_4)⟩ (fun hHeld => ?_); refine with_tabW spec_UnitsOk.tab7 spec_UnitsOk.bits7 (fun HT_ HW_ => ?_)
               generalize w31.drew = w32 at BK108 HB HR110_1 HR110_2 hx110_0 hx110_1 hx110_2 hx110_3 hx110_4 hHeld ⊢
               refine qA 0 18 (tf 49 1) ?_
               refine qT 1 19 (tf 49 3) ?_
               refine one_ (i := 2) (N := some 20) (tf 49 7) rfl rfl (one_of HT_.out (by kernel_rfl)) (by decide) (fun K hK => ?_)
               refine goes_ Try.func47 (by kernel_rfl) rfl #[.string ((rd_T55 l0 x3_1).f0)] (by rfl) rfl rfl zc6 ?_
               with_reducible refine (spec_NameOk.calls k1 ((rd_T55 l0 x3_1).f0) true _ A5.out).mono ?_
               rintro e w' ⟨rfl, ⟨nd, rfl⟩⟩
               refine ⟨_, rfl, ?_⟩
               refine hK.out _ _ ⟨(blk_cell BK108.out 0).trans rfl, (blk_cell BK108.out 1).trans rfl, (blk_cell BK108.out 2).trans rfl, (blk_cell BK108.out 3).trans rfl, (blk_cell BK108.out 4).trans rfl, ((HB.out.cell (World.block_lt_of_cell? w _ hw110_0)).trans hw110_0), ((HB.out.cell (World.block_lt_of_cell? w _ hw110_1)).trans hw110_1), ((HB.out.cell (World.block_lt_of_cell? w _ hw110_2)).trans hw110_2), ((HB.out.cell (World.block_lt_of_cell? w _ hw110_3)).trans hw110_3), ((HB.out.cell (World.block_lt_of_cell? w _ hw110_4)).trans hw110_4)⟩ (fun hHeld => ?_)
               clear hK K
               refine norm_ (a' := ?_) ?_ ?_
               rotate_left
               ·show Act.put _ (some 20) _ = _
                simp only [Act.put, sT, s0, sS, i64_w, i32_w]
                rfl
               refine qA 3 21 (tf 49 15) ?_
               refine qA 4 22 (tf 49 31) ?_
               refine qA 5 23 (tf 49 63) ?_
               refine qA 6 24 (tf 49 127) ?_
               refine qA 7 25 (tf 49 255) ?_
               refine qA 8 26 (tf 49 511) ?_
               refine qA 9 27 (tf 49 1023) ?_
               refine qA 10 28 (tf 49 2047) ?_
               refine qA 11 29 (tf 49 4095) ?_
               refine qA 12 30 (tf 49 8191) ?_
               refine qA 14 32 (tf 49 24575) ?_
               refine qT 13 31 (tf 49 32767) ?_
               refine qT 15 33 (tf 49 65535) ?_
               refine qA 16 34 (tf 49 131071) ?_
               refine qA 17 35 (tf 49 262143) ?_
               refine qA 18 36 (tf 49 524287) ?_
               refine qA 19 37 (tf 49 1048575) ?_
               refine qA 20 38 (tf 49 2097151) ?_
               refine qT 21 39 (tf 49 4194303) ?_
               refine one_ (i := 22) (N := some 40) (tf 49 8388607) rfl rfl (one_of HT_.out (by kernel_rfl)) (by decide) (fun K hK => ?_)
               refine goes_ Try.func48 (by kernel_rfl) rfl #[.slice A107_1 ((rd_T55 l0 x3_1).f1).length c107_1] (by rfl) rfl rfl zc6 ?_
               with_reducible refine (spec_l17Ascending.calls k1 _ _ ((rd_T55 l0 x3_1).f1) true _ ?side1 ?side2 A12.out).mono ?_
               (case side1 => exact zc7 HR107_1.out)
               (case side2 => exact HC107_1.out)
               rintro e w' ⟨rfl, ⟨nd, rfl⟩⟩
               refine ⟨_, rfl, ?_⟩
               refine hK.out _ _ ⟨(blk_cell BK108.out 0).trans rfl, (blk_cell BK108.out 1).trans rfl, (blk_cell BK108.out 2).trans rfl, (blk_cell BK108.out 3).trans rfl, (blk_cell BK108.out 4).trans rfl, ((HB.out.cell (World.block_lt_of_cell? w _ hw110_0)).trans hw110_0), ((HB.out.cell (World.block_lt_of_cell? w _ hw110_1)).trans hw110_1), ((HB.out.cell (World.block_lt_of_cell? w _ hw110_2)).trans hw110_2), ((HB.out.cell (World.block_lt_of_cell? w _ hw110_3)).trans hw110_3), ((HB.out.cell (World.block_lt_of_cell? w _ hw110_4)).trans hw110_4)⟩ (fun hHeld => ?_)
               clear hK K
               refine norm_ (a' := ?_) ?_ ?_
               rotate_left
               ·show Act.put _ (some 40) _ = _
                simp only [Act.put, sT, s0, sS, i64_w, i32_w]
                rfl
               refine qA 23 41 (tf 49 16777215) ?_
               refine qA 24 42 (tf 49 33554431) ?_
               refine qA 25 43 (tf 49 67108863) ?_
               refine qA 26 44 (tf 49 134217727) ?_
               refine qT 27 45 (tf 49 268435455) ?_
               refine one_ (i := 28) (N := some 46) (tf 49 536870911) rfl rfl (one_of HT_.out (by kernel_rfl)) (by decide) (fun K hK => ?_)
               refine goes_ Try.func48 (by kernel_rfl) rfl #[.slice A107_2 ((rd_T55 l0 x3_1).f2).length c107_2] (by rfl) rfl rfl zc6 ?_
               with_reducible refine (spec_l17Ascending.calls k1 _ _ ((rd_T55 l0 x3_1).f2) true _ ?side1 ?side2 A14.out).mono ?_
               (case side1 => exact zc7 HR107_2.out)
               (case side2 => exact HC107_2.out)
               rintro e w' ⟨rfl, ⟨nd, rfl⟩⟩
               refine ⟨_, rfl, ?_⟩
               refine hK.out _ _ ⟨(blk_cell BK108.out 0).trans rfl, (blk_cell BK108.out 1).trans rfl, (blk_cell BK108.out 2).trans rfl, (blk_cell BK108.out 3).trans rfl, (blk_cell BK108.out 4).trans rfl, ((HB.out.cell (World.block_lt_of_cell? w _ hw110_0)).trans hw110_0), ((HB.out.cell (World.block_lt_of_cell? w _ hw110_1)).trans hw110_1), ((HB.out.cell (World.block_lt_of_cell? w _ hw110_2)).trans hw110_2), ((HB.out.cell (World.block_lt_of_cell? w _ hw110_3)).trans hw110_3), ((HB.out.cell (World.block_lt_of_cell? w _ hw110_4)).trans hw110_4)⟩ (fun hHeld => ?_)
               clear hK K
               refine norm_ (a' := ?_) ?_ ?_
               rotate_left
               ·show Act.put _ (some 46) _ = _
                simp only [Act.put, sT, s0, sS, i64_w, i32_w]
                rfl
               refine qA 29 47 (tf 49 1073741823) ?_
               refine qA 30 48 (tf 49 2147483647) ?_
               refine qA 31 49 (tf 49 4294967295) ?_
               refine qA 32 50 (tf 49 8589934591) ?_
               refine qT 33 51 (tf 49 17179869183) ?_
               refine one_ (i := 34) (N := some 52) (tf 49 34359738367) rfl rfl (one_of HT_.out (by kernel_rfl)) (by decide) (fun K hK => ?_)
               refine goes_ Try.func49 (by kernel_rfl) rfl #[.slice A107_1 ((rd_T55 l0 x3_1).f1).length c107_1] (by rfl) rfl rfl zc6 ?_
               with_reducible refine (spec_l8Names.calls k1 _ _ ((rd_T55 l0 x3_1).f1) true _ ?side1 ?side2 A16.out).mono ?_
               (case side1 => exact zc7 HR107_1.out)
               (case side2 => exact HC107_1.out)
               rintro e w' ⟨rfl, ⟨nd, rfl⟩⟩
               refine ⟨_, rfl, ?_⟩
               refine hK.out _ _ ⟨(blk_cell BK108.out 0).trans rfl, (blk_cell BK108.out 1).trans rfl, (blk_cell BK108.out 2).trans rfl, (blk_cell BK108.out 3).trans rfl, (blk_cell BK108.out 4).trans rfl, ((HB.out.cell (World.block_lt_of_cell? w _ hw110_0)).trans hw110_0), ((HB.out.cell (World.block_lt_of_cell? w _ hw110_1)).trans hw110_1), ((HB.out.cell (World.block_lt_of_cell? w _ hw110_2)).trans hw110_2), ((HB.out.cell (World.block_lt_of_cell? w _ hw110_3)).trans hw110_3), ((HB.out.cell (World.block_lt_of_cell? w _ hw110_4)).trans hw110_4)⟩ (fun hHeld => ?_)
               clear hK K
               refine norm_ (a' := ?_) ?_ ?_
               rotate_left
               ·show Act.put _ (some 52) _ = _
                simp only [Act.put, sT, s0, sS, i64_w, i32_w]
                rfl
               refine qA 35 53 (tf 49 68719476735) ?_
               refine qA 36 54 (tf 49 137438953471) ?_
               refine qA 37 55 (tf 49 274877906943) ?_
               refine qA 38 56 (tf 49 549755813887) ?_
               refine qT 39 57 (tf 49 1099511627775) ?_
               refine one_ (i := 40) (N := some 58) (tf 49 2199023255551) rfl rfl (one_of HT_.out (by kernel_rfl)) (by decide) (fun K hK => ?_)
               refine goes_ Try.func49 (by kernel_rfl) rfl #[.slice A107_2 ((rd_T55 l0 x3_1).f2).length c107_2] (by rfl) rfl rfl zc6 ?_
               with_reducible refine (spec_l8Names.calls k1 _ _ ((rd_T55 l0 x3_1).f2) false _ ?side1 ?side2 A18.out).mono ?_
               (case side1 => exact zc7 HR107_2.out)
               (case side2 => exact HC107_2.out)
               rintro e w' ⟨rfl, ⟨nd, rfl⟩⟩
               refine ⟨_, rfl, ?_⟩
               refine hK.out _ _ ⟨(blk_cell BK108.out 0).trans rfl, (blk_cell BK108.out 1).trans rfl, (blk_cell BK108.out 2).trans rfl, (blk_cell BK108.out 3).trans rfl, (blk_cell BK108.out 4).trans rfl, ((HB.out.cell (World.block_lt_of_cell? w _ hw110_0)).trans hw110_0), ((HB.out.cell (World.block_lt_of_cell? w _ hw110_1)).trans hw110_1), ((HB.out.cell (World.block_lt_of_cell? w _ hw110_2)).trans hw110_2), ((HB.out.cell (World.block_lt_of_cell? w _ hw110_3)).trans hw110_3), ((HB.out.cell (World.block_lt_of_cell? w _ hw110_4)).trans hw110_4)⟩ (fun hHeld => ?_)
               clear hK K
               refine norm_ (a' := ?_) ?_ ?_
               rotate_left
               ·show Act.put _ (some 58) _ = _
                simp only [Act.put, sT, s0, sS, i64_w, i32_w]
                rfl
               refine qA 41 59 (tf 49 4398046511103) ?_
               refine qA 42 60 (tf 49 8796093022207) ?_
               refine qA 43 61 (tf 49 17592186044415) ?_
               refine qU 44 62 (tf 49 35184372088831) ?_
               refine qU 45 63 (tf 49 70368744177663) ?_
               refine qU 46 64 (tf 49 140737488355327) ?_
               refine qU 47 65 (tf 49 281474976710655) ?_
               refine qA 48 66 (tf 49 562949953421311) ?_
               refine done_ (done_of HT_.out (by kernel_rfl)) ?_
               try go_wp2
               go_ret
               exact ⟨zc8, zc5⟩
             ·replace c17 := Bool.eq_false_iff.mpr c17
              subst c17
              have H1 : (some false) = some r := by rw [if_neg (show ¬ (false = true) by decide)] at H; exact H
              clear H
              have H := H1
              clear H1
              obtain rfl := Option.some.inj H
              have p107 : 0 ≤ (x3_1 : Int) := of_decide_eq_true zc3
              have q107 : x3_1 < (l0.length : Int) := of_decide_eq_true zc3
              obtain ⟨ad107, A107_1, c107_1, A107_2, c107_2, e107, hx107_0, hx107_1, hx107_2, hx107_3, hx107_4, hl107_1, hi107_1, hl107_2, hi107_2⟩ := at_T55 HR0.out x3_1 p107 q107
              cases e107
              try (replace hx107_0 := (HB.out.cell (World.block_lt_of_cell? w _ hx107_0)).trans hx107_0)
              try (replace hx107_1 := (HB.out.cell (World.block_lt_of_cell? w _ hx107_1)).trans hx107_1)
              try (replace hx107_2 := (HB.out.cell (World.block_lt_of_cell? w _ hx107_2)).trans hx107_2)
              try (replace hx107_3 := (HB.out.cell (World.block_lt_of_cell? w _ hx107_3)).trans hx107_3)
              try (replace hx107_4 := (HB.out.cell (World.block_lt_of_cell? w _ hx107_4)).trans hx107_4)
              have HR107_1 := Aside0.mk hi107_1
              have HC107_1 := Aside0.mk hl107_1
              clear hi107_1 hl107_1
              have HR107_2 := Aside0.mk hi107_2
              have HC107_2 := Aside0.mk hl107_2
              clear hi107_2 hl107_2
              replace p107 := eq_true p107
              replace q107 := eq_true q107
              try go_wp2_with (first | ((with_reducible refine gate_dst (N := 4) rfl ?_); (try (refine gate_guard (by rfl) ?_; dsimp only)); refine box_event ?hg (N := 4) ?hd (cs := #[.string (⟨#[]⟩ : ByteArray), .slice none 0 0, .slice none 0 0, .string (⟨#[]⟩ : ByteArray), .bool false]) (t := 55) ?hr ?_; (case hd => rfl); (case hg => rfl); (case hr => first | (go_simp; done) | (go_simp; rfl)); intro gb108 hg w33 hbox hb; have BK108 := Aside0.mk (hbox); have GW108 := Aside0.mk ((by rw [hg]; exact (below_size qB) : w.heap.size ≤ gb108)); have GE108 := Aside0.mk ((by rw [hg]; exact (below_size qB) : w.heap.size ≤ gb108)); replace HB := Aside0.mk (below_step qB hb); clear hb hbox hg; have hcz34_0 : w33.cell? ⟨gb108, 0, none⟩ = some (.string (⟨#[]⟩ : ByteArray)) := (blk_cell BK108.out 0).trans rfl; have hcz34_1 : w33.cell? ⟨gb108, 1, none⟩ = some (.slice none 0 0) := (blk_cell BK108.out 1).trans rfl; have hcz34_2 : w33.cell? ⟨gb108, 2, none⟩ = some (.slice none 0 0) := (blk_cell BK108.out 2).trans rfl; have hcz34_3 : w33.cell? ⟨gb108, 3, none⟩ = some (.string (⟨#[]⟩ : ByteArray)) := (blk_cell BK108.out 3).trans rfl; have hcz34_4 : w33.cell? ⟨gb108, 4, none⟩ = some (.bool false) := (blk_cell BK108.out 4).trans rfl; have hfz34_0 := blk_frozen BK108.out 0; have hfz34_1 := blk_frozen BK108.out 1; have hfz34_2 := blk_frozen BK108.out 2; have hfz34_3 := blk_frozen BK108.out 3; have hfz34_4 := blk_frozen BK108.out 4))
              have n0_ : Aside0 ((((((w33.setCell ⟨gb108, 0, none⟩ (.string ((rd_T55 l0 x3_1).f0))).setCell ⟨gb108, 1, none⟩ (.slice A107_1 ((rd_T55 l0 x3_1).f1).length c107_1)).setCell ⟨gb108, 2, none⟩ (.slice A107_2 ((rd_T55 l0 x3_1).f2).length c107_2)).setCell ⟨gb108, 3, none⟩ (.string ((rd_T55 l0 x3_1).f3))).setCell ⟨gb108, 4, none⟩ (.bool ((rd_T55 l0 x3_1).f4))).heap[gb108]? = some (.cells #[.string ((rd_T55 l0 x3_1).f0), .slice A107_1 ((rd_T55 l0 x3_1).f1).length c107_1, .slice A107_2 ((rd_T55 l0 x3_1).f2).length c107_2, .string ((rd_T55 l0 x3_1).f3), .bool ((rd_T55 l0 x3_1).f4)] 55 (0, 0))) := ⟨zc4⟩
              have n1_ : Aside0 (Below w.heap.size w (((((w33.setCell ⟨gb108, 0, none⟩ (.string ((rd_T55 l0 x3_1).f0))).setCell ⟨gb108, 1, none⟩ (.slice A107_1 ((rd_T55 l0 x3_1).f1).length c107_1)).setCell ⟨gb108, 2, none⟩ (.slice A107_2 ((rd_T55 l0 x3_1).f2).length c107_2)).setCell ⟨gb108, 3, none⟩ (.string ((rd_T55 l0 x3_1).f3))).setCell ⟨gb108, 4, none⟩ (.bool ((rd_T55 l0 x3_1).f4)))) := ⟨zc5⟩
              (try clear BK108)
              (try clear HB)
              generalize (((((w33.setCell ⟨gb108, 0, none⟩ (.string ((rd_T55 l0 x3_1).f0))).setCell ⟨gb108, 1, none⟩ (.slice A107_1 ((rd_T55 l0 x3_1).f1).length c107_1)).setCell ⟨gb108, 2, none⟩ (.slice A107_2 ((rd_T55 l0 x3_1).f2).length c107_2)).setCell ⟨gb108, 3, none⟩ (.string ((rd_T55 l0 x3_1).f3))).setCell ⟨gb108, 4, none⟩ (.bool ((rd_T55 l0 x3_1).f4))) = w35 at n0_ n1_ ⊢
              have BK108 := n0_
              have HB := n1_
              clear n0_ n1_
              replace BK108 := Aside0.mk (blk_drew BK108.out)
              replace HB := Aside0.mk (below_drew1 HB.out)
              have p110 : 0 ≤ ((ji8) : Int) := of_decide_eq_true zc3
              have q110 : (ji8) < (l0.length : Int) := of_decide_eq_true zc3
              obtain ⟨ad110, A110_1, c110_1, A110_2, c110_2, e110, hx110_0, hx110_1, hx110_2, hx110_3, hx110_4, hl110_1, hi110_1, hl110_2, hi110_2⟩ := at_T55 HR0.out (ji8) p110 q110
              have hw110_4 := hx110_4
              have hw110_3 := hx110_3
              have hw110_2 := hx110_2
              have hw110_1 := hx110_1
              have hw110_0 := hx110_0
              obtain rfl : ad107 = ad110 := (by injection e110)
              try (replace hx110_0 := (HB.out.cell (World.block_lt_of_cell? w _ hx110_0)).trans hx110_0)
              try (replace hx110_1 := (HB.out.cell (World.block_lt_of_cell? w _ hx110_1)).trans hx110_1)
              try (replace hx110_2 := (HB.out.cell (World.block_lt_of_cell? w _ hx110_2)).trans hx110_2)
              try (replace hx110_3 := (HB.out.cell (World.block_lt_of_cell? w _ hx110_3)).trans hx110_3)
              try (replace hx110_4 := (HB.out.cell (World.block_lt_of_cell? w _ hx110_4)).trans hx110_4)
              have HR110_1 := Aside0.mk hi110_1
              have HC110_1 := Aside0.mk hl110_1
              clear hi110_1 hl110_1
              have HR110_2 := Aside0.mk hi110_2
              have HC110_2 := Aside0.mk hl110_2
              clear hi110_2 hl110_2
              replace p110 := eq_true p110
              replace q110 := eq_true q110
              refine start_ (n := 49) (S := fun w' => w'.cell? ⟨gb108, 0, none⟩ = some (.string ((rd_T55 l0 x3_1).f0)) ∧ w'.cell? ⟨gb108, 1, none⟩ = some (.slice A107_1 ((rd_T55 l0 x3_1).f1).length c107_1) ∧ w'.cell? ⟨gb108, 2, none⟩ = some (.slice A107_2 ((rd_T55 l0 x3_1).f2).length c107_2) ∧ w'.cell? ⟨gb108, 3, none⟩ = some (.string ((rd_T55 l0 x3_1).f3)) ∧ w'.cell? ⟨gb108, 4, none⟩ = some (.bool ((rd_T55 l0 x3_1).f4)) ∧ w'.cell? (ad107.add (((ji8)).toNat * 5)) = some (.string ((rd_T55 l0 (ji8)).f0)) ∧ w'.cell? ⟨(ad107.add (((ji8)).toNat * 5)).block, (ad107.add (((ji8)).toNat * 5)).off + 1, none⟩ = some (.slice A110_1 ((rd_T55 l0 (ji8)).f1).length c110_1) ∧ w'.cell? ⟨(ad107.add (((ji8)).toNat * 5)).block, (ad107.add (((ji8)).toNat * 5)).off + 2, none⟩ = some (.slice A110_2 ((rd_T55 l0 (ji8)).f2).length c110_2) ∧ w'.cell? ⟨(ad107.add (((ji8)).toNat * 5)).block, (ad107.add (((ji8)).toNat * 5)).off + 3, none⟩ = some (.string ((rd_T55 l0 (ji8)).f3)) ∧ w'.cell? ⟨(ad107.add (((ji8)).toNat * 5)).block, (ad107.add (((ji8)).toNat * 5)).off + 4, none⟩ = some (.bool ((rd_T55 l0 (ji8)).f4))) (ds := []) (tf 49 0) (by kernel_rfl) rfl rfl ⟨(blk_cell BK108.out 0).trans rfl, (blk_cell BK108.out 1).trans rfl, (blk_cell BK108.out 2).trans rfl, (blk_cell BK108.out 3).trans rfl, (blk_cell BK108.out 4).trans rfl, ((HB.out.cell (World.block_lt_of_cell? w _ hw110_0)).trans hw110_0), ((HB.out.cell (World.block_lt_of_cell? w _ hw110_1)).trans hw110_1), ((HB.out.cell (World.block_lt_of_cell? w _ hw110_2)).trans hw110_2), ((HB.out.cell (World.block_lt_of_cell? w _ hw110_3)).trans hw110_3), ((HB.out.cell (World.block_lt_of_cell? w _ hw110_4)).trans hw110_4)⟩ (fun hHeld => ?_); refine with_tabW spec_UnitsOk.tab7 spec_UnitsOk.bits7 (fun HT_ HW_ => ?_)
              generalize w35.drew = w36 at BK108 HB HR110_1 HR110_2 hx110_0 hx110_1 hx110_2 hx110_3 hx110_4 hHeld ⊢
              refine qA 0 18 (tf 49 1) ?_
              refine qT 1 19 (tf 49 3) ?_
              refine one_ (i := 2) (N := some 20) (tf 49 7) rfl rfl (one_of HT_.out (by kernel_rfl)) (by decide) (fun K hK => ?_)
              refine goes_ Try.func47 (by kernel_rfl) rfl #[.string ((rd_T55 l0 x3_1).f0)] (by rfl) rfl rfl zc6 ?_
              with_reducible refine (spec_NameOk.calls k1 ((rd_T55 l0 x3_1).f0) true _ A5.out).mono ?_
              rintro e w' ⟨rfl, ⟨nd, rfl⟩⟩
              refine ⟨_, rfl, ?_⟩
              refine hK.out _ _ ⟨(blk_cell BK108.out 0).trans rfl, (blk_cell BK108.out 1).trans rfl, (blk_cell BK108.out 2).trans rfl, (blk_cell BK108.out 3).trans rfl, (blk_cell BK108.out 4).trans rfl, ((HB.out.cell (World.block_lt_of_cell? w _ hw110_0)).trans hw110_0), ((HB.out.cell (World.block_lt_of_cell? w _ hw110_1)).trans hw110_1), ((HB.out.cell (World.block_lt_of_cell? w _ hw110_2)).trans hw110_2), ((HB.out.cell (World.block_lt_of_cell? w _ hw110_3)).trans hw110_3), ((HB.out.cell (World.block_lt_of_cell? w _ hw110_4)).trans hw110_4)⟩ (fun hHeld => ?_)
              clear hK K
              refine norm_ (a' := ?_) ?_ ?_
              rotate_left
              ·show Act.put _ (some 20) _ = _
               simp only [Act.put, sT, s0, sS, i64_w, i32_w]
               rfl
              refine qA 3 21 (tf 49 15) ?_
              refine qA 4 22 (tf 49 31) ?_
              refine qA 5 23 (tf 49 63) ?_
              refine qA 6 24 (tf 49 127) ?_
              refine qA 7 25 (tf 49 255) ?_
              refine qA 8 26 (tf 49 511) ?_
              refine qA 9 27 (tf 49 1023) ?_
              refine qA 10 28 (tf 49 2047) ?_
              refine qA 11 29 (tf 49 4095) ?_
              refine qA 12 30 (tf 49 8191) ?_
              refine qA 14 32 (tf 49 24575) ?_
              refine qT 13 31 (tf 49 32767) ?_
              refine qT 15 33 (tf 49 65535) ?_
              refine qA 16 34 (tf 49 131071) ?_
              refine qA 17 35 (tf 49 262143) ?_
              refine qA 18 36 (tf 49 524287) ?_
              refine qA 19 37 (tf 49 1048575) ?_
              refine qA 20 38 (tf 49 2097151) ?_
              refine qT 21 39 (tf 49 4194303) ?_
              refine one_ (i := 22) (N := some 40) (tf 49 8388607) rfl rfl (one_of HT_.out (by kernel_rfl)) (by decide) (fun K hK => ?_)
              refine goes_ Try.func48 (by kernel_rfl) rfl #[.slice A107_1 ((rd_T55 l0 x3_1).f1).length c107_1] (by rfl) rfl rfl zc6 ?_
              with_reducible refine (spec_l17Ascending.calls k1 _ _ ((rd_T55 l0 x3_1).f1) true _ ?side1 ?side2 A12.out).mono ?_
              (case side1 => exact zc7 HR107_1.out)
              (case side2 => exact HC107_1.out)
              rintro e w' ⟨rfl, ⟨nd, rfl⟩⟩
              refine ⟨_, rfl, ?_⟩
              refine hK.out _ _ ⟨(blk_cell BK108.out 0).trans rfl, (blk_cell BK108.out 1).trans rfl, (blk_cell BK108.out 2).trans rfl, (blk_cell BK108.out 3).trans rfl, (blk_cell BK108.out 4).trans rfl, ((HB.out.cell (World.block_lt_of_cell? w _ hw110_0)).trans hw110_0), ((HB.out.cell (World.block_lt_of_cell? w _ hw110_1)).trans hw110_1), ((HB.out.cell (World.block_lt_of_cell? w _ hw110_2)).trans hw110_2), ((HB.out.cell (World.block_lt_of_cell? w _ hw110_3)).trans hw110_3), ((HB.out.cell (World.block_lt_of_cell? w _ hw110_4)).trans hw110_4)⟩ (fun hHeld => ?_)
              clear hK K
              refine norm_ (a' := ?_) ?_ ?_
              rotate_left
              ·show Act.put _ (some 40) _ = _
               simp only [Act.put, sT, s0, sS, i64_w, i32_w]
               rfl
              refine qA 23 41 (tf 49 16777215) ?_
              refine qA 24 42 (tf 49 33554431) ?_
              refine qA 25 43 (tf 49 67108863) ?_
              refine qA 26 44 (tf 49 134217727) ?_
              refine qT 27 45 (tf 49 268435455) ?_
              refine one_ (i := 28) (N := some 46) (tf 49 536870911) rfl rfl (one_of HT_.out (by kernel_rfl)) (by decide) (fun K hK => ?_)
              refine goes_ Try.func48 (by kernel_rfl) rfl #[.slice A107_2 ((rd_T55 l0 x3_1).f2).length c107_2] (by rfl) rfl rfl zc6 ?_
              with_reducible refine (spec_l17Ascending.calls k1 _ _ ((rd_T55 l0 x3_1).f2) true _ ?side1 ?side2 A14.out).mono ?_
              (case side1 => exact zc7 HR107_2.out)
              (case side2 => exact HC107_2.out)
              rintro e w' ⟨rfl, ⟨nd, rfl⟩⟩
              refine ⟨_, rfl, ?_⟩
              refine hK.out _ _ ⟨(blk_cell BK108.out 0).trans rfl, (blk_cell BK108.out 1).trans rfl, (blk_cell BK108.out 2).trans rfl, (blk_cell BK108.out 3).trans rfl, (blk_cell BK108.out 4).trans rfl, ((HB.out.cell (World.block_lt_of_cell? w _ hw110_0)).trans hw110_0), ((HB.out.cell (World.block_lt_of_cell? w _ hw110_1)).trans hw110_1), ((HB.out.cell (World.block_lt_of_cell? w _ hw110_2)).trans hw110_2), ((HB.out.cell (World.block_lt_of_cell? w _ hw110_3)).trans hw110_3), ((HB.out.cell (World.block_lt_of_cell? w _ hw110_4)).trans hw110_4)⟩ (fun hHeld => ?_)
              clear hK K
              refine norm_ (a' := ?_) ?_ ?_
              rotate_left
              ·show Act.put _ (some 46) _ = _
               simp only [Act.put, sT, s0, sS, i64_w, i32_w]
               rfl
              refine qA 29 47 (tf 49 1073741823) ?_
              refine qA 30 48 (tf 49 2147483647) ?_
              refine qA 31 49 (tf 49 4294967295) ?_
              refine qA 32 50 (tf 49 8589934591) ?_
              refine qT 33 51 (tf 49 17179869183) ?_
              refine one_ (i := 34) (N := some 52) (tf 49 34359738367) rfl rfl (one_of HT_.out (by kernel_rfl)) (by decide) (fun K hK => ?_)
              refine goes_ Try.func49 (by kernel_rfl) rfl #[.slice A107_1 ((rd_T55 l0 x3_1).f1).length c107_1] (by rfl) rfl rfl zc6 ?_
              with_reducible refine (spec_l8Names.calls k1 _ _ ((rd_T55 l0 x3_1).f1) false _ ?side1 ?side2 A16.out).mono ?_
              (case side1 => exact zc7 HR107_1.out)
              (case side2 => exact HC107_1.out)
              rintro e w' ⟨rfl, ⟨nd, rfl⟩⟩
              refine ⟨_, rfl, ?_⟩
              refine hK.out _ _ ⟨(blk_cell BK108.out 0).trans rfl, (blk_cell BK108.out 1).trans rfl, (blk_cell BK108.out 2).trans rfl, (blk_cell BK108.out 3).trans rfl, (blk_cell BK108.out 4).trans rfl, ((HB.out.cell (World.block_lt_of_cell? w _ hw110_0)).trans hw110_0), ((HB.out.cell (World.block_lt_of_cell? w _ hw110_1)).trans hw110_1), ((HB.out.cell (World.block_lt_of_cell? w _ hw110_2)).trans hw110_2), ((HB.out.cell (World.block_lt_of_cell? w _ hw110_3)).trans hw110_3), ((HB.out.cell (World.block_lt_of_cell? w _ hw110_4)).trans hw110_4)⟩ (fun hHeld => ?_)
              clear hK K
              refine norm_ (a' := ?_) ?_ ?_
              rotate_left
              ·show Act.put _ (some 52) _ = _
               simp only [Act.put, sT, s0, sS, i64_w, i32_w]
               rfl
              refine qA 35 53 (tf 49 68719476735) ?_
              refine qA 36 54 (tf 49 137438953471) ?_
              refine qA 37 55 (tf 49 274877906943) ?_
              refine qU 38 56 (tf 49 549755813887) ?_
              refine qU 39 57 (tf 49 1099511627775) ?_
              refine qU 40 58 (tf 49 2199023255551) ?_
              refine qU 41 59 (tf 49 4398046511103) ?_
              refine qA 42 60 (tf 49 8796093022207) ?_
              refine qA 43 61 (tf 49 17592186044415) ?_
              refine qU 44 62 (tf 49 35184372088831) ?_
              refine qU 45 63 (tf 49 70368744177663) ?_
              refine qU 46 64 (tf 49 140737488355327) ?_
              refine qU 47 65 (tf 49 281474976710655) ?_
              refine qA 48 66 (tf 49 562949953421311) ?_
              refine done_ (done_of HT_.out (by kernel_rfl)) ?_
              try go_wp2
              go_ret
              exact ⟨zc8, zc5⟩
            ·replace c15 := Bool.eq_false_iff.mpr c15
             subst c15
             have H1 : (some false) = some r := by rw [if_neg (show ¬ (false = true) by decide)] at H; exact H
             clear H
             have H := H1
             clear H1
             obtain rfl := Option.some.inj H
             have p107 : 0 ≤ (x3_1 : Int) := of_decide_eq_true zc3
             have q107 : x3_1 < (l0.length : Int) := of_decide_eq_true zc3
             obtain ⟨ad107, A107_1, c107_1, A107_2, c107_2, e107, hx107_0, hx107_1, hx107_2, hx107_3, hx107_4, hl107_1, hi107_1, hl107_2, hi107_2⟩ := at_T55 HR0.out x3_1 p107 q107
             cases e107
             try (replace hx107_0 := (HB.out.cell (World.block_lt_of_cell? w _ hx107_0)).trans hx107_0)
             try (replace hx107_1 := (HB.out.cell (World.block_lt_of_cell? w _ hx107_1)).trans hx107_1)
             try (replace hx107_2 := (HB.out.cell (World.block_lt_of_cell? w _ hx107_2)).trans hx107_2)
             try (replace hx107_3 := (HB.out.cell (World.block_lt_of_cell? w _ hx107_3)).trans hx107_3)
             try (replace hx107_4 := (HB.out.cell (World.block_lt_of_cell? w _ hx107_4)).trans hx107_4)
             have HR107_1 := Aside0.mk hi107_1
             have HC107_1 := Aside0.mk hl107_1
             clear hi107_1 hl107_1
             have HR107_2 := Aside0.mk hi107_2
             have HC107_2 := Aside0.mk hl107_2
             clear hi107_2 hl107_2
             replace p107 := eq_true p107
             replace q107 := eq_true q107
             try go_wp2_with (first | ((with_reducible refine gate_dst (N := 4) rfl ?_); (try (refine gate_guard (by rfl) ?_; dsimp only)); refine box_event ?hg (N := 4) ?hd (cs := #[.string (⟨#[]⟩ : ByteArray), .slice none 0 0, .slice none 0 0, .string (⟨#[]⟩ : ByteArray), .bool false]) (t := 55) ?hr ?_; (case hd => rfl); (case hg => rfl); (case hr => first | (go_simp; done) | (go_simp; rfl)); intro gb108 hg w37 hbox hb; have BK108 := Aside0.mk (hbox); have GW108 := Aside0.mk ((by rw [hg]; exact (below_size qB) : w.heap.size ≤ gb108)); have GE108 := Aside0.mk ((by rw [hg]; exact (below_size qB) : w.heap.size ≤ gb108)); replace HB := Aside0.mk (below_step qB hb); clear hb hbox hg; have hcz38_0 : w37.cell? ⟨gb108, 0, none⟩ = some (.string (⟨#[]⟩ : ByteArray)) := (blk_cell BK108.out 0).trans rfl; have hcz38_1 : w37.cell? ⟨gb108, 1, none⟩ = some (.slice none 0 0) := (blk_cell BK108.out 1).trans rfl; have hcz38_2 : w37.cell? ⟨gb108, 2, none⟩ = some (.slice none 0 0) := (blk_cell BK108.out 2).trans rfl; have hcz38_3 : w37.cell? ⟨gb108, 3, none⟩ = some (.string (⟨#[]⟩ : ByteArray)) := (blk_cell BK108.out 3).trans rfl; have hcz38_4 : w37.cell? ⟨gb108, 4, none⟩ = some (.bool false) := (blk_cell BK108.out 4).trans rfl; have hfz38_0 := blk_frozen BK108.out 0; have hfz38_1 := blk_frozen BK108.out 1; have hfz38_2 := blk_frozen BK108.out 2; have hfz38_3 := blk_frozen BK108.out 3; have hfz38_4 := blk_frozen BK108.out 4))
             have n0_ : Aside0 ((((((w37.setCell ⟨gb108, 0, none⟩ (.string ((rd_T55 l0 x3_1).f0))).setCell ⟨gb108, 1, none⟩ (.slice A107_1 ((rd_T55 l0 x3_1).f1).length c107_1)).setCell ⟨gb108, 2, none⟩ (.slice A107_2 ((rd_T55 l0 x3_1).f2).length c107_2)).setCell ⟨gb108, 3, none⟩ (.string ((rd_T55 l0 x3_1).f3))).setCell ⟨gb108, 4, none⟩ (.bool ((rd_T55 l0 x3_1).f4))).heap[gb108]? = some (.cells #[.string ((rd_T55 l0 x3_1).f0), .slice A107_1 ((rd_T55 l0 x3_1).f1).length c107_1, .slice A107_2 ((rd_T55 l0 x3_1).f2).length c107_2, .string ((rd_T55 l0 x3_1).f3), .bool ((rd_T55 l0 x3_1).f4)] 55 (0, 0))) := ⟨zc4⟩
             have n1_ : Aside0 (Below w.heap.size w (((((w37.setCell ⟨gb108, 0, none⟩ (.string ((rd_T55 l0 x3_1).f0))).setCell ⟨gb108, 1, none⟩ (.slice A107_1 ((rd_T55 l0 x3_1).f1).length c107_1)).setCell ⟨gb108, 2, none⟩ (.slice A107_2 ((rd_T55 l0 x3_1).f2).length c107_2)).setCell ⟨gb108, 3, none⟩ (.string ((rd_T55 l0 x3_1).f3))).setCell ⟨gb108, 4, none⟩ (.bool ((rd_T55 l0 x3_1).f4)))) := ⟨zc5⟩
             (try clear BK108)
             (try clear HB)
             generalize (((((w37.setCell ⟨gb108, 0, none⟩ (.string ((rd_T55 l0 x3_1).f0))).setCell ⟨gb108, 1, none⟩ (.slice A107_1 ((rd_T55 l0 x3_1).f1).length c107_1)).setCell ⟨gb108, 2, none⟩ (.slice A107_2 ((rd_T55 l0 x3_1).f2).length c107_2)).setCell ⟨gb108, 3, none⟩ (.string ((rd_T55 l0 x3_1).f3))).setCell ⟨gb108, 4, none⟩ (.bool ((rd_T55 l0 x3_1).f4))) = w39 at n0_ n1_ ⊢
             have BK108 := n0_
             have HB := n1_
             clear n0_ n1_
             replace BK108 := Aside0.mk (blk_drew BK108.out)
             replace HB := Aside0.mk (below_drew1 HB.out)
             have p110 : 0 ≤ ((ji8) : Int) := of_decide_eq_true zc3
             have q110 : (ji8) < (l0.length : Int) := of_decide_eq_true zc3
             obtain ⟨ad110, A110_1, c110_1, A110_2, c110_2, e110, hx110_0, hx110_1, hx110_2, hx110_3, hx110_4, hl110_1, hi110_1, hl110_2, hi110_2⟩ := at_T55 HR0.out (ji8) p110 q110
             have hw110_4 := hx110_4
             have hw110_3 := hx110_3
             have hw110_2 := hx110_2
             have hw110_1 := hx110_1
             have hw110_0 := hx110_0
             obtain rfl : ad107 = ad110 := (by injection e110)
             try (replace hx110_0 := (HB.out.cell (World.block_lt_of_cell? w _ hx110_0)).trans hx110_0)
             try (replace hx110_1 := (HB.out.cell (World.block_lt_of_cell? w _ hx110_1)).trans hx110_1)
             try (replace hx110_2 := (HB.out.cell (World.block_lt_of_cell? w _ hx110_2)).trans hx110_2)
             try (replace hx110_3 := (HB.out.cell (World.block_lt_of_cell? w _ hx110_3)).trans hx110_3)
             try (replace hx110_4 := (HB.out.cell (World.block_lt_of_cell? w _ hx110_4)).trans hx110_4)
             have HR110_1 := Aside0.mk hi110_1
             have HC110_1 := Aside0.mk hl110_1
             clear hi110_1 hl110_1
             have HR110_2 := Aside0.mk hi110_2
             have HC110_2 := Aside0.mk hl110_2
             clear hi110_2 hl110_2
             replace p110 := eq_true p110
             replace q110 := eq_true q110
             refine start_ (n := 49) (S := fun w' => w'.cell? ⟨gb108, 0, none⟩ = some (.string ((rd_T55 l0 x3_1).f0)) ∧ w'.cell? ⟨gb108, 1, none⟩ = some (.slice A107_1 ((rd_T55 l0 x3_1).f1).length c107_1) ∧ w'.cell? ⟨gb108, 2, none⟩ = some (.slice A107_2 ((rd_T55 l0 x3_1).f2).length c107_2) ∧ w'.cell? ⟨gb108, 3, none⟩ = some (.string ((rd_T55 l0 x3_1).f3)) ∧ w'.cell? ⟨gb108, 4, none⟩ = some (.bool ((rd_T55 l0 x3_1).f4)) ∧ w'.cell? (ad107.add (((ji8)).toNat * 5)) = some (.string ((rd_T55 l0 (ji8)).f0)) ∧ w'.cell? ⟨(ad107.add (((ji8)).toNat * 5)).block, (ad107.add (((ji8)).toNat * 5)).off + 1, none⟩ = some (.slice A110_1 ((rd_T55 l0 (ji8)).f1).length c110_1) ∧ w'.cell? ⟨(ad107.add (((ji8)).toNat * 5)).block, (ad107.add (((ji8)).toNat * 5)).off + 2, none⟩ = some (.slice A110_2 ((rd_T55 l0 (ji8)).f2).length c110_2) ∧ w'.cell? ⟨(ad107.add (((ji8)).toNat * 5)).block, (ad107.add (((ji8)).toNat * 5)).off + 3, none⟩ = some (.string ((rd_T55 l0 (ji8)).f3)) ∧ w'.cell? ⟨(ad107.add (((ji8)).toNat * 5)).block, (ad107.add (((ji8)).toNat * 5)).off + 4, none⟩ = some (.bool ((rd_T55 l0 (ji8)).f4))) (ds := []) (tf 49 0) (by kernel_rfl) rfl rfl ⟨(blk_cell BK108.out 0).trans rfl, (blk_cell BK108.out 1).trans rfl, (blk_cell BK108.out 2).trans rfl, (blk_cell BK108.out 3).trans rfl, (blk_cell BK108.out 4).trans rfl, ((HB.out.cell (World.block_lt_of_cell? w _ hw110_0)).trans hw110_0), ((HB.out.cell (World.block_lt_of_cell? w _ hw110_1)).trans hw110_1), ((HB.out.cell (World.block_lt_of_cell? w _ hw110_2)).trans hw110_2), ((HB.out.cell (World.block_lt_of_cell? w _ hw110_3)).trans hw110_3), ((HB.out.cell (World.block_lt_of_cell? w _ hw110_4)).trans hw110_4)⟩ (fun hHeld => ?_); refine with_tabW spec_UnitsOk.tab7 spec_UnitsOk.bits7 (fun HT_ HW_ => ?_)
             generalize w39.drew = w40 at BK108 HB HR110_1 HR110_2 hx110_0 hx110_1 hx110_2 hx110_3 hx110_4 hHeld ⊢
             refine qA 0 18 (tf 49 1) ?_
             refine qT 1 19 (tf 49 3) ?_
             refine one_ (i := 2) (N := some 20) (tf 49 7) rfl rfl (one_of HT_.out (by kernel_rfl)) (by decide) (fun K hK => ?_)
             refine goes_ Try.func47 (by kernel_rfl) rfl #[.string ((rd_T55 l0 x3_1).f0)] (by rfl) rfl rfl zc6 ?_
             with_reducible refine (spec_NameOk.calls k1 ((rd_T55 l0 x3_1).f0) true _ A5.out).mono ?_
             rintro e w' ⟨rfl, ⟨nd, rfl⟩⟩
             refine ⟨_, rfl, ?_⟩
             refine hK.out _ _ ⟨(blk_cell BK108.out 0).trans rfl, (blk_cell BK108.out 1).trans rfl, (blk_cell BK108.out 2).trans rfl, (blk_cell BK108.out 3).trans rfl, (blk_cell BK108.out 4).trans rfl, ((HB.out.cell (World.block_lt_of_cell? w _ hw110_0)).trans hw110_0), ((HB.out.cell (World.block_lt_of_cell? w _ hw110_1)).trans hw110_1), ((HB.out.cell (World.block_lt_of_cell? w _ hw110_2)).trans hw110_2), ((HB.out.cell (World.block_lt_of_cell? w _ hw110_3)).trans hw110_3), ((HB.out.cell (World.block_lt_of_cell? w _ hw110_4)).trans hw110_4)⟩ (fun hHeld => ?_)
             clear hK K
             refine norm_ (a' := ?_) ?_ ?_
             rotate_left
             ·show Act.put _ (some 20) _ = _
              simp only [Act.put, sT, s0, sS, i64_w, i32_w]
              rfl
             refine qA 3 21 (tf 49 15) ?_
             refine qA 4 22 (tf 49 31) ?_
             refine qA 5 23 (tf 49 63) ?_
             refine qA 6 24 (tf 49 127) ?_
             refine qA 7 25 (tf 49 255) ?_
             refine qA 8 26 (tf 49 511) ?_
             refine qA 9 27 (tf 49 1023) ?_
             refine qA 10 28 (tf 49 2047) ?_
             refine qA 11 29 (tf 49 4095) ?_
             refine qA 12 30 (tf 49 8191) ?_
             refine qA 14 32 (tf 49 24575) ?_
             refine qT 13 31 (tf 49 32767) ?_
             refine qT 15 33 (tf 49 65535) ?_
             refine qA 16 34 (tf 49 131071) ?_
             refine qA 17 35 (tf 49 262143) ?_
             refine qA 18 36 (tf 49 524287) ?_
             refine qA 19 37 (tf 49 1048575) ?_
             refine qA 20 38 (tf 49 2097151) ?_
             refine qT 21 39 (tf 49 4194303) ?_
             refine one_ (i := 22) (N := some 40) (tf 49 8388607) rfl rfl (one_of HT_.out (by kernel_rfl)) (by decide) (fun K hK => ?_)
             refine goes_ Try.func48 (by kernel_rfl) rfl #[.slice A107_1 ((rd_T55 l0 x3_1).f1).length c107_1] (by rfl) rfl rfl zc6 ?_
             with_reducible refine (spec_l17Ascending.calls k1 _ _ ((rd_T55 l0 x3_1).f1) true _ ?side1 ?side2 A12.out).mono ?_
             (case side1 => exact zc7 HR107_1.out)
             (case side2 => exact HC107_1.out)
             rintro e w' ⟨rfl, ⟨nd, rfl⟩⟩
             refine ⟨_, rfl, ?_⟩
             refine hK.out _ _ ⟨(blk_cell BK108.out 0).trans rfl, (blk_cell BK108.out 1).trans rfl, (blk_cell BK108.out 2).trans rfl, (blk_cell BK108.out 3).trans rfl, (blk_cell BK108.out 4).trans rfl, ((HB.out.cell (World.block_lt_of_cell? w _ hw110_0)).trans hw110_0), ((HB.out.cell (World.block_lt_of_cell? w _ hw110_1)).trans hw110_1), ((HB.out.cell (World.block_lt_of_cell? w _ hw110_2)).trans hw110_2), ((HB.out.cell (World.block_lt_of_cell? w _ hw110_3)).trans hw110_3), ((HB.out.cell (World.block_lt_of_cell? w _ hw110_4)).trans hw110_4)⟩ (fun hHeld => ?_)
             clear hK K
             refine norm_ (a' := ?_) ?_ ?_
             rotate_left
             ·show Act.put _ (some 40) _ = _
              simp only [Act.put, sT, s0, sS, i64_w, i32_w]
              rfl
             refine qA 23 41 (tf 49 16777215) ?_
             refine qA 24 42 (tf 49 33554431) ?_
             refine qA 25 43 (tf 49 67108863) ?_
             refine qA 26 44 (tf 49 134217727) ?_
             refine qT 27 45 (tf 49 268435455) ?_
             refine one_ (i := 28) (N := some 46) (tf 49 536870911) rfl rfl (one_of HT_.out (by kernel_rfl)) (by decide) (fun K hK => ?_)
             refine goes_ Try.func48 (by kernel_rfl) rfl #[.slice A107_2 ((rd_T55 l0 x3_1).f2).length c107_2] (by rfl) rfl rfl zc6 ?_
             with_reducible refine (spec_l17Ascending.calls k1 _ _ ((rd_T55 l0 x3_1).f2) false _ ?side1 ?side2 A14.out).mono ?_
             (case side1 => exact zc7 HR107_2.out)
             (case side2 => exact HC107_2.out)
             rintro e w' ⟨rfl, ⟨nd, rfl⟩⟩
             refine ⟨_, rfl, ?_⟩
             refine hK.out _ _ ⟨(blk_cell BK108.out 0).trans rfl, (blk_cell BK108.out 1).trans rfl, (blk_cell BK108.out 2).trans rfl, (blk_cell BK108.out 3).trans rfl, (blk_cell BK108.out 4).trans rfl, ((HB.out.cell (World.block_lt_of_cell? w _ hw110_0)).trans hw110_0), ((HB.out.cell (World.block_lt_of_cell? w _ hw110_1)).trans hw110_1), ((HB.out.cell (World.block_lt_of_cell? w _ hw110_2)).trans hw110_2), ((HB.out.cell (World.block_lt_of_cell? w _ hw110_3)).trans hw110_3), ((HB.out.cell (World.block_lt_of_cell? w _ hw110_4)).trans hw110_4)⟩ (fun hHeld => ?_)
             clear hK K
             refine norm_ (a' := ?_) ?_ ?_
             rotate_left
             ·show Act.put _ (some 46) _ = _
              simp only [Act.put, sT, s0, sS, i64_w, i32_w]
              rfl
             refine qA 29 47 (tf 49 1073741823) ?_
             refine qA 30 48 (tf 49 2147483647) ?_
             refine qA 31 49 (tf 49 4294967295) ?_
             refine qU 32 50 (tf 49 8589934591) ?_
             refine qU 33 51 (tf 49 17179869183) ?_
             refine qU 34 52 (tf 49 34359738367) ?_
             refine qU 35 53 (tf 49 68719476735) ?_
             refine qA 36 54 (tf 49 137438953471) ?_
             refine qA 37 55 (tf 49 274877906943) ?_
             refine qU 38 56 (tf 49 549755813887) ?_
             refine qU 39 57 (tf 49 1099511627775) ?_
             refine qU 40 58 (tf 49 2199023255551) ?_
             refine qU 41 59 (tf 49 4398046511103) ?_
             refine qA 42 60 (tf 49 8796093022207) ?_
             refine qA 43 61 (tf 49 17592186044415) ?_
             refine qU 44 62 (tf 49 35184372088831) ?_
             refine qU 45 63 (tf 49 70368744177663) ?_
             refine qU 46 64 (tf 49 140737488355327) ?_
             refine qU 47 65 (tf 49 281474976710655) ?_
             refine qA 48 66 (tf 49 562949953421311) ?_
             refine done_ (done_of HT_.out (by kernel_rfl)) ?_
             try go_wp2
             go_ret
             exact ⟨zc8, zc5⟩
           ·replace c13 := Bool.eq_false_iff.mpr c13
            subst c13
            have H1 : (some false) = some r := by rw [if_neg (show ¬ (false = true) by decide)] at H; exact H
            clear H
            have H := H1
            clear H1
            obtain rfl := Option.some.inj H
            have p107 : 0 ≤ (x3_1 : Int) := of_decide_eq_true zc3
            have q107 : x3_1 < (l0.length : Int) := of_decide_eq_true zc3
            obtain ⟨ad107, A107_1, c107_1, A107_2, c107_2, e107, hx107_0, hx107_1, hx107_2, hx107_3, hx107_4, hl107_1, hi107_1, hl107_2, hi107_2⟩ := at_T55 HR0.out x3_1 p107 q107
            cases e107
            try (replace hx107_0 := (HB.out.cell (World.block_lt_of_cell? w _ hx107_0)).trans hx107_0)
            try (replace hx107_1 := (HB.out.cell (World.block_lt_of_cell? w _ hx107_1)).trans hx107_1)
            try (replace hx107_2 := (HB.out.cell (World.block_lt_of_cell? w _ hx107_2)).trans hx107_2)
            try (replace hx107_3 := (HB.out.cell (World.block_lt_of_cell? w _ hx107_3)).trans hx107_3)
            try (replace hx107_4 := (HB.out.cell (World.block_lt_of_cell? w _ hx107_4)).trans hx107_4)
            have HR107_1 := Aside0.mk hi107_1
            have HC107_1 := Aside0.mk hl107_1
            clear hi107_1 hl107_1
            have HR107_2 := Aside0.mk hi107_2
            have HC107_2 := Aside0.mk hl107_2
            clear hi107_2 hl107_2
            replace p107 := eq_true p107
            replace q107 := eq_true q107
            try go_wp2_with (first | ((with_reducible refine gate_dst (N := 4) rfl ?_); (try (refine gate_guard (by rfl) ?_; dsimp only)); refine box_event ?hg (N := 4) ?hd (cs := #[.string (⟨#[]⟩ : ByteArray), .slice none 0 0, .slice none 0 0, .string (⟨#[]⟩ : ByteArray), .bool false]) (t := 55) ?hr ?_; (case hd => rfl); (case hg => rfl); (case hr => first | (go_simp; done) | (go_simp; rfl)); intro gb108 hg w41 hbox hb; have BK108 := Aside0.mk (hbox); have GW108 := Aside0.mk ((by rw [hg]; exact (below_size qB) : w.heap.size ≤ gb108)); have GE108 := Aside0.mk ((by rw [hg]; exact (below_size qB) : w.heap.size ≤ gb108)); replace HB := Aside0.mk (below_step qB hb); clear hb hbox hg; have hcz42_0 : w41.cell? ⟨gb108, 0, none⟩ = some (.string (⟨#[]⟩ : ByteArray)) := (blk_cell BK108.out 0).trans rfl; have hcz42_1 : w41.cell? ⟨gb108, 1, none⟩ = some (.slice none 0 0) := (blk_cell BK108.out 1).trans rfl; have hcz42_2 : w41.cell? ⟨gb108, 2, none⟩ = some (.slice none 0 0) := (blk_cell BK108.out 2).trans rfl; have hcz42_3 : w41.cell? ⟨gb108, 3, none⟩ = some (.string (⟨#[]⟩ : ByteArray)) := (blk_cell BK108.out 3).trans rfl; have hcz42_4 : w41.cell? ⟨gb108, 4, none⟩ = some (.bool false) := (blk_cell BK108.out 4).trans rfl; have hfz42_0 := blk_frozen BK108.out 0; have hfz42_1 := blk_frozen BK108.out 1; have hfz42_2 := blk_frozen BK108.out 2; have hfz42_3 := blk_frozen BK108.out 3; have hfz42_4 := blk_frozen BK108.out 4))
            have n0_ : Aside0 ((((((w41.setCell ⟨gb108, 0, none⟩ (.string ((rd_T55 l0 x3_1).f0))).setCell ⟨gb108, 1, none⟩ (.slice A107_1 ((rd_T55 l0 x3_1).f1).length c107_1)).setCell ⟨gb108, 2, none⟩ (.slice A107_2 ((rd_T55 l0 x3_1).f2).length c107_2)).setCell ⟨gb108, 3, none⟩ (.string ((rd_T55 l0 x3_1).f3))).setCell ⟨gb108, 4, none⟩ (.bool ((rd_T55 l0 x3_1).f4))).heap[gb108]? = some (.cells #[.string ((rd_T55 l0 x3_1).f0), .slice A107_1 ((rd_T55 l0 x3_1).f1).length c107_1, .slice A107_2 ((rd_T55 l0 x3_1).f2).length c107_2, .string ((rd_T55 l0 x3_1).f3), .bool ((rd_T55 l0 x3_1).f4)] 55 (0, 0))) := ⟨zc4⟩
            have n1_ : Aside0 (Below w.heap.size w (((((w41.setCell ⟨gb108, 0, none⟩ (.string ((rd_T55 l0 x3_1).f0))).setCell ⟨gb108, 1, none⟩ (.slice A107_1 ((rd_T55 l0 x3_1).f1).length c107_1)).setCell ⟨gb108, 2, none⟩ (.slice A107_2 ((rd_T55 l0 x3_1).f2).length c107_2)).setCell ⟨gb108, 3, none⟩ (.string ((rd_T55 l0 x3_1).f3))).setCell ⟨gb108, 4, none⟩ (.bool ((rd_T55 l0 x3_1).f4)))) := ⟨zc5⟩
            (try clear BK108)
            (try clear HB)
            generalize (((((w41.setCell ⟨gb108, 0, none⟩ (.string ((rd_T55 l0 x3_1).f0))).setCell ⟨gb108, 1, none⟩ (.slice A107_1 ((rd_T55 l0 x3_1).f1).length c107_1)).setCell ⟨gb108, 2, none⟩ (.slice A107_2 ((rd_T55 l0 x3_1).f2).length c107_2)).setCell ⟨gb108, 3, none⟩ (.string ((rd_T55 l0 x3_1).f3))).setCell ⟨gb108, 4, none⟩ (.bool ((rd_T55 l0 x3_1).f4))) = w43 at n0_ n1_ ⊢
            have BK108 := n0_
            have HB := n1_
            clear n0_ n1_
            replace BK108 := Aside0.mk (blk_drew BK108.out)
            replace HB := Aside0.mk (below_drew1 HB.out)
            have p110 : 0 ≤ ((ji8) : Int) := of_decide_eq_true zc3
            have q110 : (ji8) < (l0.length : Int) := of_decide_eq_true zc3
            obtain ⟨ad110, A110_1, c110_1, A110_2, c110_2, e110, hx110_0, hx110_1, hx110_2, hx110_3, hx110_4, hl110_1, hi110_1, hl110_2, hi110_2⟩ := at_T55 HR0.out (ji8) p110 q110
            have hw110_4 := hx110_4
            have hw110_3 := hx110_3
            have hw110_2 := hx110_2
            have hw110_1 := hx110_1
            have hw110_0 := hx110_0
            obtain rfl : ad107 = ad110 := (by injection e110)
            try (replace hx110_0 := (HB.out.cell (World.block_lt_of_cell? w _ hx110_0)).trans hx110_0)
            try (replace hx110_1 := (HB.out.cell (World.block_lt_of_cell? w _ hx110_1)).trans hx110_1)
            try (replace hx110_2 := (HB.out.cell (World.block_lt_of_cell? w _ hx110_2)).trans hx110_2)
            try (replace hx110_3 := (HB.out.cell (World.block_lt_of_cell? w _ hx110_3)).trans hx110_3)
            try (replace hx110_4 := (HB.out.cell (World.block_lt_of_cell? w _ hx110_4)).trans hx110_4)
            have HR110_1 := Aside0.mk hi110_1
            have HC110_1 := Aside0.mk hl110_1
            clear hi110_1 hl110_1
            have HR110_2 := Aside0.mk hi110_2
            have HC110_2 := Aside0.mk hl110_2
            clear hi110_2 hl110_2
            replace p110 := eq_true p110
            replace q110 := eq_true q110
            refine start_ (n := 49) (S := fun w' => w'.cell? ⟨gb108, 0, none⟩ = some (.string ((rd_T55 l0 x3_1).f0)) ∧ w'.cell? ⟨gb108, 1, none⟩ = some (.slice A107_1 ((rd_T55 l0 x3_1).f1).length c107_1) ∧ w'.cell? ⟨gb108, 2, none⟩ = some (.slice A107_2 ((rd_T55 l0 x3_1).f2).length c107_2) ∧ w'.cell? ⟨gb108, 3, none⟩ = some (.string ((rd_T55 l0 x3_1).f3)) ∧ w'.cell? ⟨gb108, 4, none⟩ = some (.bool ((rd_T55 l0 x3_1).f4)) ∧ w'.cell? (ad107.add (((ji8)).toNat * 5)) = some (.string ((rd_T55 l0 (ji8)).f0)) ∧ w'.cell? ⟨(ad107.add (((ji8)).toNat * 5)).block, (ad107.add (((ji8)).toNat * 5)).off + 1, none⟩ = some (.slice A110_1 ((rd_T55 l0 (ji8)).f1).length c110_1) ∧ w'.cell? ⟨(ad107.add (((ji8)).toNat * 5)).block, (ad107.add (((ji8)).toNat * 5)).off + 2, none⟩ = some (.slice A110_2 ((rd_T55 l0 (ji8)).f2).length c110_2) ∧ w'.cell? ⟨(ad107.add (((ji8)).toNat * 5)).block, (ad107.add (((ji8)).toNat * 5)).off + 3, none⟩ = some (.string ((rd_T55 l0 (ji8)).f3)) ∧ w'.cell? ⟨(ad107.add (((ji8)).toNat * 5)).block, (ad107.add (((ji8)).toNat * 5)).off + 4, none⟩ = some (.bool ((rd_T55 l0 (ji8)).f4))) (ds := []) (tf 49 0) (by kernel_rfl) rfl rfl ⟨(blk_cell BK108.out 0).trans rfl, (blk_cell BK108.out 1).trans rfl, (blk_cell BK108.out 2).trans rfl, (blk_cell BK108.out 3).trans rfl, (blk_cell BK108.out 4).trans rfl, ((HB.out.cell (World.block_lt_of_cell? w _ hw110_0)).trans hw110_0), ((HB.out.cell (World.block_lt_of_cell? w _ hw110_1)).trans hw110_1), ((HB.out.cell (World.block_lt_of_cell? w _ hw110_2)).trans hw110_2), ((HB.out.cell (World.block_lt_of_cell? w _ hw110_3)).trans hw110_3), ((HB.out.cell (World.block_lt_of_cell? w _ hw110_4)).trans hw110_4)⟩ (fun hHeld => ?_); refine with_tabW spec_UnitsOk.tab7 spec_UnitsOk.bits7 (fun HT_ HW_ => ?_)
            generalize w43.drew = w44 at BK108 HB HR110_1 HR110_2 hx110_0 hx110_1 hx110_2 hx110_3 hx110_4 hHeld ⊢
            refine qA 0 18 (tf 49 1) ?_
            refine qT 1 19 (tf 49 3) ?_
            refine one_ (i := 2) (N := some 20) (tf 49 7) rfl rfl (one_of HT_.out (by kernel_rfl)) (by decide) (fun K hK => ?_)
            refine goes_ Try.func47 (by kernel_rfl) rfl #[.string ((rd_T55 l0 x3_1).f0)] (by rfl) rfl rfl zc6 ?_
            with_reducible refine (spec_NameOk.calls k1 ((rd_T55 l0 x3_1).f0) true _ A5.out).mono ?_
            rintro e w' ⟨rfl, ⟨nd, rfl⟩⟩
            refine ⟨_, rfl, ?_⟩
            refine hK.out _ _ ⟨(blk_cell BK108.out 0).trans rfl, (blk_cell BK108.out 1).trans rfl, (blk_cell BK108.out 2).trans rfl, (blk_cell BK108.out 3).trans rfl, (blk_cell BK108.out 4).trans rfl, ((HB.out.cell (World.block_lt_of_cell? w _ hw110_0)).trans hw110_0), ((HB.out.cell (World.block_lt_of_cell? w _ hw110_1)).trans hw110_1), ((HB.out.cell (World.block_lt_of_cell? w _ hw110_2)).trans hw110_2), ((HB.out.cell (World.block_lt_of_cell? w _ hw110_3)).trans hw110_3), ((HB.out.cell (World.block_lt_of_cell? w _ hw110_4)).trans hw110_4)⟩ (fun hHeld => ?_)
            clear hK K
            refine norm_ (a' := ?_) ?_ ?_
            rotate_left
            ·show Act.put _ (some 20) _ = _
             simp only [Act.put, sT, s0, sS, i64_w, i32_w]
             rfl
            refine qA 3 21 (tf 49 15) ?_
            refine qA 4 22 (tf 49 31) ?_
            refine qA 5 23 (tf 49 63) ?_
            refine qA 6 24 (tf 49 127) ?_
            refine qA 7 25 (tf 49 255) ?_
            refine qA 8 26 (tf 49 511) ?_
            refine qA 9 27 (tf 49 1023) ?_
            refine qA 10 28 (tf 49 2047) ?_
            refine qA 11 29 (tf 49 4095) ?_
            refine qA 12 30 (tf 49 8191) ?_
            refine qA 14 32 (tf 49 24575) ?_
            refine qT 13 31 (tf 49 32767) ?_
            refine qT 15 33 (tf 49 65535) ?_
            refine qA 16 34 (tf 49 131071) ?_
            refine qA 17 35 (tf 49 262143) ?_
            refine qA 18 36 (tf 49 524287) ?_
            refine qA 19 37 (tf 49 1048575) ?_
            refine qA 20 38 (tf 49 2097151) ?_
            refine qT 21 39 (tf 49 4194303) ?_
            refine one_ (i := 22) (N := some 40) (tf 49 8388607) rfl rfl (one_of HT_.out (by kernel_rfl)) (by decide) (fun K hK => ?_)
            refine goes_ Try.func48 (by kernel_rfl) rfl #[.slice A107_1 ((rd_T55 l0 x3_1).f1).length c107_1] (by rfl) rfl rfl zc6 ?_
            with_reducible refine (spec_l17Ascending.calls k1 _ _ ((rd_T55 l0 x3_1).f1) false _ ?side1 ?side2 A12.out).mono ?_
            (case side1 => exact zc7 HR107_1.out)
            (case side2 => exact HC107_1.out)
            rintro e w' ⟨rfl, ⟨nd, rfl⟩⟩
            refine ⟨_, rfl, ?_⟩
            refine hK.out _ _ ⟨(blk_cell BK108.out 0).trans rfl, (blk_cell BK108.out 1).trans rfl, (blk_cell BK108.out 2).trans rfl, (blk_cell BK108.out 3).trans rfl, (blk_cell BK108.out 4).trans rfl, ((HB.out.cell (World.block_lt_of_cell? w _ hw110_0)).trans hw110_0), ((HB.out.cell (World.block_lt_of_cell? w _ hw110_1)).trans hw110_1), ((HB.out.cell (World.block_lt_of_cell? w _ hw110_2)).trans hw110_2), ((HB.out.cell (World.block_lt_of_cell? w _ hw110_3)).trans hw110_3), ((HB.out.cell (World.block_lt_of_cell? w _ hw110_4)).trans hw110_4)⟩ (fun hHeld => ?_)
            clear hK K
            refine norm_ (a' := ?_) ?_ ?_
            rotate_left
            ·show Act.put _ (some 40) _ = _
             simp only [Act.put, sT, s0, sS, i64_w, i32_w]
             rfl
            refine qA 23 41 (tf 49 16777215) ?_
            refine qA 24 42 (tf 49 33554431) ?_
            refine qA 25 43 (tf 49 67108863) ?_
            refine qU 26 44 (tf 49 134217727) ?_
            refine qU 27 45 (tf 49 268435455) ?_
            refine qU 28 46 (tf 49 536870911) ?_
            refine qU 29 47 (tf 49 1073741823) ?_
            refine qA 30 48 (tf 49 2147483647) ?_
            refine qA 31 49 (tf 49 4294967295) ?_
            refine qU 32 50 (tf 49 8589934591) ?_
            refine qU 33 51 (tf 49 17179869183) ?_
            refine qU 34 52 (tf 49 34359738367) ?_
            refine qU 35 53 (tf 49 68719476735) ?_
            refine qA 36 54 (tf 49 137438953471) ?_
            refine qA 37 55 (tf 49 274877906943) ?_
            refine qU 38 56 (tf 49 549755813887) ?_
            refine qU 39 57 (tf 49 1099511627775) ?_
            refine qU 40 58 (tf 49 2199023255551) ?_
            refine qU 41 59 (tf 49 4398046511103) ?_
            refine qA 42 60 (tf 49 8796093022207) ?_
            refine qA 43 61 (tf 49 17592186044415) ?_
            refine qU 44 62 (tf 49 35184372088831) ?_
            refine qU 45 63 (tf 49 70368744177663) ?_
            refine qU 46 64 (tf 49 140737488355327) ?_
            refine qU 47 65 (tf 49 281474976710655) ?_
            refine qA 48 66 (tf 49 562949953421311) ?_
            refine done_ (done_of HT_.out (by kernel_rfl)) ?_
            try go_wp2
            go_ret
            exact ⟨zc8, zc5⟩
          ·rw [if_neg c11] at H
           have c11b0 : (Op.bytesLess (((rd_T55 l0 (ji8)).f0).toList) (((rd_T55 l0 x3_1).f0).toList)) = false := by simpa using c11
           clear c11
           obtain rfl := Option.some.inj H
           have p107 : 0 ≤ (x3_1 : Int) := of_decide_eq_true zc3
           have q107 : x3_1 < (l0.length : Int) := of_decide_eq_true zc3
           obtain ⟨ad107, A107_1, c107_1, A107_2, c107_2, e107, hx107_0, hx107_1, hx107_2, hx107_3, hx107_4, hl107_1, hi107_1, hl107_2, hi107_2⟩ := at_T55 HR0.out x3_1 p107 q107
           cases e107
           try (replace hx107_0 := (HB.out.cell (World.block_lt_of_cell? w _ hx107_0)).trans hx107_0)
           try (replace hx107_1 := (HB.out.cell (World.block_lt_of_cell? w _ hx107_1)).trans hx107_1)
           try (replace hx107_2 := (HB.out.cell (World.block_lt_of_cell? w _ hx107_2)).trans hx107_2)
           try (replace hx107_3 := (HB.out.cell (World.block_lt_of_cell? w _ hx107_3)).trans hx107_3)
           try (replace hx107_4 := (HB.out.cell (World.block_lt_of_cell? w _ hx107_4)).trans hx107_4)
           have HR107_1 := Aside0.mk hi107_1
           have HC107_1 := Aside0.mk hl107_1
           clear hi107_1 hl107_1
           have HR107_2 := Aside0.mk hi107_2
           have HC107_2 := Aside0.mk hl107_2
           clear hi107_2 hl107_2
           replace p107 := eq_true p107
           replace q107 := eq_true q107
           try go_wp2_with (first | ((with_reducible refine gate_dst (N := 4) rfl ?_); (try (refine gate_guard (by rfl) ?_; dsimp only)); refine box_event ?hg (N := 4) ?hd (cs := #[.string (⟨#[]⟩ : ByteArray), .slice none 0 0, .slice none 0 0, .string (⟨#[]⟩ : ByteArray), .bool false]) (t := 55) ?hr ?_; (case hd => rfl); (case hg => rfl); (case hr => first | (go_simp; done) | (go_simp; rfl)); intro gb108 hg w45 hbox hb; have BK108 := Aside0.mk (hbox); have GW108 := Aside0.mk ((by rw [hg]; exact (below_size qB) : w.heap.size ≤ gb108)); have GE108 := Aside0.mk ((by rw [hg]; exact (below_size qB) : w.heap.size ≤ gb108)); replace HB := Aside0.mk (below_step qB hb); clear hb hbox hg; have hcz46_0 : w45.cell? ⟨gb108, 0, none⟩ = some (.string (⟨#[]⟩ : ByteArray)) := (blk_cell BK108.out 0).trans rfl; have hcz46_1 : w45.cell? ⟨gb108, 1, none⟩ = some (.slice none 0 0) := (blk_cell BK108.out 1).trans rfl; have hcz46_2 : w45.cell? ⟨gb108, 2, none⟩ = some (.slice none 0 0) := (blk_cell BK108.out 2).trans rfl; have hcz46_3 : w45.cell? ⟨gb108, 3, none⟩ = some (.string (⟨#[]⟩ : ByteArray)) := (blk_cell BK108.out 3).trans rfl; have hcz46_4 : w45.cell? ⟨gb108, 4, none⟩ = some (.bool false) := (blk_cell BK108.out 4).trans rfl; have hfz46_0 := blk_frozen BK108.out 0; have hfz46_1 := blk_frozen BK108.out 1; have hfz46_2 := blk_frozen BK108.out 2; have hfz46_3 := blk_frozen BK108.out 3; have hfz46_4 := blk_frozen BK108.out 4))
           have n0_ : Aside0 ((((((w45.setCell ⟨gb108, 0, none⟩ (.string ((rd_T55 l0 x3_1).f0))).setCell ⟨gb108, 1, none⟩ (.slice A107_1 ((rd_T55 l0 x3_1).f1).length c107_1)).setCell ⟨gb108, 2, none⟩ (.slice A107_2 ((rd_T55 l0 x3_1).f2).length c107_2)).setCell ⟨gb108, 3, none⟩ (.string ((rd_T55 l0 x3_1).f3))).setCell ⟨gb108, 4, none⟩ (.bool ((rd_T55 l0 x3_1).f4))).heap[gb108]? = some (.cells #[.string ((rd_T55 l0 x3_1).f0), .slice A107_1 ((rd_T55 l0 x3_1).f1).length c107_1, .slice A107_2 ((rd_T55 l0 x3_1).f2).length c107_2, .string ((rd_T55 l0 x3_1).f3), .bool ((rd_T55 l0 x3_1).f4)] 55 (0, 0))) := ⟨zc4⟩
           have n1_ : Aside0 (Below w.heap.size w (((((w45.setCell ⟨gb108, 0, none⟩ (.string ((rd_T55 l0 x3_1).f0))).setCell ⟨gb108, 1, none⟩ (.slice A107_1 ((rd_T55 l0 x3_1).f1).length c107_1)).setCell ⟨gb108, 2, none⟩ (.slice A107_2 ((rd_T55 l0 x3_1).f2).length c107_2)).setCell ⟨gb108, 3, none⟩ (.string ((rd_T55 l0 x3_1).f3))).setCell ⟨gb108, 4, none⟩ (.bool ((rd_T55 l0 x3_1).f4)))) := ⟨zc5⟩
           (try clear BK108)
           (try clear HB)
           generalize (((((w45.setCell ⟨gb108, 0, none⟩ (.string ((rd_T55 l0 x3_1).f0))).setCell ⟨gb108, 1, none⟩ (.slice A107_1 ((rd_T55 l0 x3_1).f1).length c107_1)).setCell ⟨gb108, 2, none⟩ (.slice A107_2 ((rd_T55 l0 x3_1).f2).length c107_2)).setCell ⟨gb108, 3, none⟩ (.string ((rd_T55 l0 x3_1).f3))).setCell ⟨gb108, 4, none⟩ (.bool ((rd_T55 l0 x3_1).f4))) = w47 at n0_ n1_ ⊢
           have BK108 := n0_
           have HB := n1_
           clear n0_ n1_
           replace BK108 := Aside0.mk (blk_drew BK108.out)
           replace HB := Aside0.mk (below_drew1 HB.out)
           have p110 : 0 ≤ ((ji8) : Int) := of_decide_eq_true zc3
           have q110 : (ji8) < (l0.length : Int) := of_decide_eq_true zc3
           obtain ⟨ad110, A110_1, c110_1, A110_2, c110_2, e110, hx110_0, hx110_1, hx110_2, hx110_3, hx110_4, hl110_1, hi110_1, hl110_2, hi110_2⟩ := at_T55 HR0.out (ji8) p110 q110
           have hw110_4 := hx110_4
           have hw110_3 := hx110_3
           have hw110_2 := hx110_2
           have hw110_1 := hx110_1
           have hw110_0 := hx110_0
           obtain rfl : ad107 = ad110 := (by injection e110)
           try (replace hx110_0 := (HB.out.cell (World.block_lt_of_cell? w _ hx110_0)).trans hx110_0)
           try (replace hx110_1 := (HB.out.cell (World.block_lt_of_cell? w _ hx110_1)).trans hx110_1)
           try (replace hx110_2 := (HB.out.cell (World.block_lt_of_cell? w _ hx110_2)).trans hx110_2)
           try (replace hx110_3 := (HB.out.cell (World.block_lt_of_cell? w _ hx110_3)).trans hx110_3)
           try (replace hx110_4 := (HB.out.cell (World.block_lt_of_cell? w _ hx110_4)).trans hx110_4)
           have HR110_1 := Aside0.mk hi110_1
           have HC110_1 := Aside0.mk hl110_1
           clear hi110_1 hl110_1
           have HR110_2 := Aside0.mk hi110_2
           have HC110_2 := Aside0.mk hl110_2
           clear hi110_2 hl110_2
           replace p110 := eq_true p110
           replace q110 := eq_true q110
           refine start_ (n := 49) (S := fun w' => w'.cell? ⟨gb108, 0, none⟩ = some (.string ((rd_T55 l0 x3_1).f0)) ∧ w'.cell? ⟨gb108, 1, none⟩ = some (.slice A107_1 ((rd_T55 l0 x3_1).f1).length c107_1) ∧ w'.cell? ⟨gb108, 2, none⟩ = some (.slice A107_2 ((rd_T55 l0 x3_1).f2).length c107_2) ∧ w'.cell? ⟨gb108, 3, none⟩ = some (.string ((rd_T55 l0 x3_1).f3)) ∧ w'.cell? ⟨gb108, 4, none⟩ = some (.bool ((rd_T55 l0 x3_1).f4)) ∧ w'.cell? (ad107.add (((ji8)).toNat * 5)) = some (.string ((rd_T55 l0 (ji8)).f0)) ∧ w'.cell? ⟨(ad107.add (((ji8)).toNat * 5)).block, (ad107.add (((ji8)).toNat * 5)).off + 1, none⟩ = some (.slice A110_1 ((rd_T55 l0 (ji8)).f1).length c110_1) ∧ w'.cell? ⟨(ad107.add (((ji8)).toNat * 5)).block, (ad107.add (((ji8)).toNat * 5)).off + 2, none⟩ = some (.slice A110_2 ((rd_T55 l0 (ji8)).f2).length c110_2) ∧ w'.cell? ⟨(ad107.add (((ji8)).toNat * 5)).block, (ad107.add (((ji8)).toNat * 5)).off + 3, none⟩ = some (.string ((rd_T55 l0 (ji8)).f3)) ∧ w'.cell? ⟨(ad107.add (((ji8)).toNat * 5)).block, (ad107.add (((ji8)).toNat * 5)).off + 4, none⟩ = some (.bool ((rd_T55 l0 (ji8)).f4))) (ds := []) (tf 49 0) (by kernel_rfl) rfl rfl ⟨(blk_cell BK108.out 0).trans rfl, (blk_cell BK108.out 1).trans rfl, (blk_cell BK108.out 2).trans rfl, (blk_cell BK108.out 3).trans rfl, (blk_cell BK108.out 4).trans rfl, ((HB.out.cell (World.block_lt_of_cell? w _ hw110_0)).trans hw110_0), ((HB.out.cell (World.block_lt_of_cell? w _ hw110_1)).trans hw110_1), ((HB.out.cell (World.block_lt_of_cell? w _ hw110_2)).trans hw110_2), ((HB.out.cell (World.block_lt_of_cell? w _ hw110_3)).trans hw110_3), ((HB.out.cell (World.block_lt_of_cell? w _ hw110_4)).trans hw110_4)⟩ (fun hHeld => ?_); refine with_tabW spec_UnitsOk.tab7 spec_UnitsOk.bits7 (fun HT_ HW_ => ?_)
           generalize w47.drew = w48 at BK108 HB HR110_1 HR110_2 hx110_0 hx110_1 hx110_2 hx110_3 hx110_4 hHeld ⊢
           refine qA 0 18 (tf 49 1) ?_
           refine qT 1 19 (tf 49 3) ?_
           refine one_ (i := 2) (N := some 20) (tf 49 7) rfl rfl (one_of HT_.out (by kernel_rfl)) (by decide) (fun K hK => ?_)
           refine goes_ Try.func47 (by kernel_rfl) rfl #[.string ((rd_T55 l0 x3_1).f0)] (by rfl) rfl rfl zc6 ?_
           with_reducible refine (spec_NameOk.calls k1 ((rd_T55 l0 x3_1).f0) true _ A5.out).mono ?_
           rintro e w' ⟨rfl, ⟨nd, rfl⟩⟩
           refine ⟨_, rfl, ?_⟩
           refine hK.out _ _ ⟨(blk_cell BK108.out 0).trans rfl, (blk_cell BK108.out 1).trans rfl, (blk_cell BK108.out 2).trans rfl, (blk_cell BK108.out 3).trans rfl, (blk_cell BK108.out 4).trans rfl, ((HB.out.cell (World.block_lt_of_cell? w _ hw110_0)).trans hw110_0), ((HB.out.cell (World.block_lt_of_cell? w _ hw110_1)).trans hw110_1), ((HB.out.cell (World.block_lt_of_cell? w _ hw110_2)).trans hw110_2), ((HB.out.cell (World.block_lt_of_cell? w _ hw110_3)).trans hw110_3), ((HB.out.cell (World.block_lt_of_cell? w _ hw110_4)).trans hw110_4)⟩ (fun hHeld => ?_)
           clear hK K
           refine norm_ (a' := ?_) ?_ ?_
           rotate_left
           ·show Act.put _ (some 20) _ = _
            simp only [Act.put, sT, s0, sS, i64_w, i32_w]
            rfl
           refine qA 3 21 (tf 49 15) ?_
           refine qA 4 22 (tf 49 31) ?_
           refine qA 5 23 (tf 49 63) ?_
           refine qA 6 24 (tf 49 127) ?_
           refine qA 7 25 (tf 49 255) ?_
           refine qA 8 26 (tf 49 511) ?_
           refine qA 9 27 (tf 49 1023) ?_
           refine qA 10 28 (tf 49 2047) ?_
           refine qA 11 29 (tf 49 4095) ?_
           refine qA 12 30 (tf 49 8191) ?_
           refine qA 14 32 (tf 49 24575) ?_
           refine qT 13 31 (tf 49 32767) ?_
           refine qT 15 33 (tf 49 65535) ?_
           refine qA 16 34 (tf 49 131071) ?_
           refine qA 17 35 (tf 49 262143) ?_
           refine qA 18 36 (tf 49 524287) ?_
           refine qA 19 37 (tf 49 1048575) ?_
           refine qU 20 38 (tf 49 2097151) ?_
           refine qU 21 39 (tf 49 4194303) ?_
           refine qU 22 40 (tf 49 8388607) ?_
           refine qU 23 41 (tf 49 16777215) ?_
           refine qA 24 42 (tf 49 33554431) ?_
           refine qA 25 43 (tf 49 67108863) ?_
           refine qU 26 44 (tf 49 134217727) ?_
           refine qU 27 45 (tf 49 268435455) ?_
           refine qU 28 46 (tf 49 536870911) ?_
           refine qU 29 47 (tf 49 1073741823) ?_
           refine qA 30 48 (tf 49 2147483647) ?_
           refine qA 31 49 (tf 49 4294967295) ?_
           refine qU 32 50 (tf 49 8589934591) ?_
           refine qU 33 51 (tf 49 17179869183) ?_
           refine qU 34 52 (tf 49 34359738367) ?_
           refine qU 35 53 (tf 49 68719476735) ?_
           refine qA 36 54 (tf 49 137438953471) ?_
           refine qA 37 55 (tf 49 274877906943) ?_
           refine qU 38 56 (tf 49 549755813887) ?_
           refine qU 39 57 (tf 49 1099511627775) ?_
           refine qU 40 58 (tf 49 2199023255551) ?_
           refine qU 41 59 (tf 49 4398046511103) ?_
           refine qA 42 60 (tf 49 8796093022207) ?_
           refine qA 43 61 (tf 49 17592186044415) ?_
           refine qU 44 62 (tf 49 35184372088831) ?_
           refine qU 45 63 (tf 49 70368744177663) ?_
           refine qU 46 64 (tf 49 140737488355327) ?_
           refine qU 47 65 (tf 49 281474976710655) ?_
           refine qA 48 66 (tf 49 562949953421311) ?_
           refine done_ (done_of HT_.out (by kernel_rfl)) ?_
           try go_wp2
           go_ret
           exact ⟨zc8, zc5⟩
         ·rw [if_neg c10] at H
          exact absurd H (by simp)
        ·rw [if_neg c9] at H
         exact absurd H (by simp)
       ·rw [if_neg c7] at H
        have c7b0 : decide (0 < x3_1) = false := decide_eq_false c7
        clear c7
        replace H := Option.bind_eq_some_iff.mp H
        obtain ⟨t115, A490, H⟩ := H
        replace H : (if t115 = true then ((spec_l17Ascending.f k1 ((rd_T55 l0 x3_1).f2)).bind fun t116 => (if t116 = true then ((spec_l8Names.f k1 ((rd_T55 l0 x3_1).f1)).bind fun t117 => (if t117 = true then ((spec_l8Names.f k1 ((rd_T55 l0 x3_1).f2)).bind fun t118 => (if t118 = true then (if (((rd_T55 l0 x3_1).f3).size : Int) > 4000 then (some false) else (spec_UnitsOk.l0 k1 l0 (wrap64 (x3_1 + 1)))) else (some false))) else (some false))) else (some false))) else (some false)) = some r := H
        have A49 := Aside0.mk A490
        clear A490
        by_cases c50 : t115 = true
        ·subst c50
         have H1 : ((spec_l17Ascending.f k1 ((rd_T55 l0 x3_1).f2)).bind fun t116 => (if t116 = true then ((spec_l8Names.f k1 ((rd_T55 l0 x3_1).f1)).bind fun t117 => (if t117 = true then ((spec_l8Names.f k1 ((rd_T55 l0 x3_1).f2)).bind fun t118 => (if t118 = true then (if (((rd_T55 l0 x3_1).f3).size : Int) > 4000 then (some false) else (spec_UnitsOk.l0 k1 l0 (wrap64 (x3_1 + 1)))) else (some false))) else (some false))) else (some false))) = some r := by rw [if_pos rfl] at H; exact H
         clear H
         have H := H1
         clear H1
         replace H := Option.bind_eq_some_iff.mp H
         obtain ⟨t116, A510, H⟩ := H
         replace H : (if t116 = true then ((spec_l8Names.f k1 ((rd_T55 l0 x3_1).f1)).bind fun t117 => (if t117 = true then ((spec_l8Names.f k1 ((rd_T55 l0 x3_1).f2)).bind fun t118 => (if t118 = true then (if (((rd_T55 l0 x3_1).f3).size : Int) > 4000 then (some false) else (spec_UnitsOk.l0 k1 l0 (wrap64 (x3_1 + 1)))) else (some false))) else (some false))) else (some false)) = some r := H
         have A51 := Aside0.mk A510
         clear A510
         by_cases c52 : t116 = true
         ·subst c52
          have H1 : ((spec_l8Names.f k1 ((rd_T55 l0 x3_1).f1)).bind fun t117 => (if t117 = true then ((spec_l8Names.f k1 ((rd_T55 l0 x3_1).f2)).bind fun t118 => (if t118 = true then (if (((rd_T55 l0 x3_1).f3).size : Int) > 4000 then (some false) else (spec_UnitsOk.l0 k1 l0 (wrap64 (x3_1 + 1)))) else (some false))) else (some false))) = some r := by rw [if_pos rfl] at H; exact H
          clear H
          have H := H1
          clear H1
          replace H := Option.bind_eq_some_iff.mp H
          obtain ⟨t117, A530, H⟩ := H
          replace H : (if t117 = true then ((spec_l8Names.f k1 ((rd_T55 l0 x3_1).f2)).bind fun t118 => (if t118 = true then (if (((rd_T55 l0 x3_1).f3).size : Int) > 4000 then (some false) else (spec_UnitsOk.l0 k1 l0 (wrap64 (x3_1 + 1)))) else (some false))) else (some false)) = some r := H
          have A53 := Aside0.mk A530
          clear A530
          by_cases c54 : t117 = true
          ·subst c54
           have H1 : ((spec_l8Names.f k1 ((rd_T55 l0 x3_1).f2)).bind fun t118 => (if t118 = true then (if (((rd_T55 l0 x3_1).f3).size : Int) > 4000 then (some false) else (spec_UnitsOk.l0 k1 l0 (wrap64 (x3_1 + 1)))) else (some false))) = some r := by rw [if_pos rfl] at H; exact H
           clear H
           have H := H1
           clear H1
           replace H := Option.bind_eq_some_iff.mp H
           obtain ⟨t118, A550, H⟩ := H
           replace H : (if t118 = true then (if (((rd_T55 l0 x3_1).f3).size : Int) > 4000 then (some false) else (spec_UnitsOk.l0 k1 l0 (wrap64 (x3_1 + 1)))) else (some false)) = some r := H
           have A55 := Aside0.mk A550
           clear A550
           by_cases c56 : t118 = true
           ·subst c56
            have H1 : (if (((rd_T55 l0 x3_1).f3).size : Int) > 4000 then (some false) else (spec_UnitsOk.l0 k1 l0 (wrap64 (x3_1 + 1)))) = some r := by rw [if_pos rfl] at H; exact H
            clear H
            have H := H1
            clear H1
            by_cases c57 : (((rd_T55 l0 x3_1).f3).size : Int) > 4000
            ·rw [if_pos c57] at H
             have c57b0 : decide (4000 < (((rd_T55 l0 x3_1).f3).size : Int)) = true := decide_eq_true c57
             have c57b1 : decide (4000 < ((rd_T55 l0 x3_1).f3).size) = true := decide_eq_true (by omega)
             clear c57
             obtain rfl := Option.some.inj H
             have p107 : 0 ≤ (x3_1 : Int) := of_decide_eq_true zc3
             have q107 : x3_1 < (l0.length : Int) := of_decide_eq_true zc3
             obtain ⟨ad107, A107_1, c107_1, A107_2, c107_2, e107, hx107_0, hx107_1, hx107_2, hx107_3, hx107_4, hl107_1, hi107_1, hl107_2, hi107_2⟩ := at_T55 HR0.out x3_1 p107 q107
             cases e107
             try (replace hx107_0 := (HB.out.cell (World.block_lt_of_cell? w _ hx107_0)).trans hx107_0)
             try (replace hx107_1 := (HB.out.cell (World.block_lt_of_cell? w _ hx107_1)).trans hx107_1)
             try (replace hx107_2 := (HB.out.cell (World.block_lt_of_cell? w _ hx107_2)).trans hx107_2)
             try (replace hx107_3 := (HB.out.cell (World.block_lt_of_cell? w _ hx107_3)).trans hx107_3)
             try (replace hx107_4 := (HB.out.cell (World.block_lt_of_cell? w _ hx107_4)).trans hx107_4)
             have HR107_1 := Aside0.mk hi107_1
             have HC107_1 := Aside0.mk hl107_1
             clear hi107_1 hl107_1
             have HR107_2 := Aside0.mk hi107_2
             have HC107_2 := Aside0.mk hl107_2
             clear hi107_2 hl107_2
             replace p107 := eq_true p107
             replace q107 := eq_true q107
             try go_wp2_with (first | ((with_reducible refine gate_dst (N := 4) rfl ?_); (try (refine gate_guard (by rfl) ?_; dsimp only)); refine box_event ?hg (N := 4) ?hd (cs := #[.string (⟨#[]⟩ : ByteArray), .slice none 0 0, .slice none 0 0, .string (⟨#[]⟩ : ByteArray), .bool false]) (t := 55) ?hr ?_; (case hd => rfl); (case hg => rfl); (case hr => first | (go_simp; done) | (go_simp; rfl)); intro gb108 hg w58 hbox hb; have BK108 := Aside0.mk (hbox); have GW108 := Aside0.mk ((by rw [hg]; exact (below_size qB) : w.heap.size ≤ gb108)); have GE108 := Aside0.mk ((by rw [hg]; exact (below_size qB) : w.heap.size ≤ gb108)); replace HB := Aside0.mk (below_step qB hb); clear hb hbox hg; have hcz59_0 : w58.cell? ⟨gb108, 0, none⟩ = some (.string (⟨#[]⟩ : ByteArray)) := (blk_cell BK108.out 0).trans rfl; have hcz59_1 : w58.cell? ⟨gb108, 1, none⟩ = some (.slice none 0 0) := (blk_cell BK108.out 1).trans rfl; have hcz59_2 : w58.cell? ⟨gb108, 2, none⟩ = some (.slice none 0 0) := (blk_cell BK108.out 2).trans rfl; have hcz59_3 : w58.cell? ⟨gb108, 3, none⟩ = some (.string (⟨#[]⟩ : ByteArray)) := (blk_cell BK108.out 3).trans rfl; have hcz59_4 : w58.cell? ⟨gb108, 4, none⟩ = some (.bool false) := (blk_cell BK108.out 4).trans rfl; have hfz59_0 := blk_frozen BK108.out 0; have hfz59_1 := blk_frozen BK108.out 1; have hfz59_2 := blk_frozen BK108.out 2; have hfz59_3 := blk_frozen BK108.out 3; have hfz59_4 := blk_frozen BK108.out 4))
             have n0_ : Aside0 ((((((w58.setCell ⟨gb108, 0, none⟩ (.string ((rd_T55 l0 x3_1).f0))).setCell ⟨gb108, 1, none⟩ (.slice A107_1 ((rd_T55 l0 x3_1).f1).length c107_1)).setCell ⟨gb108, 2, none⟩ (.slice A107_2 ((rd_T55 l0 x3_1).f2).length c107_2)).setCell ⟨gb108, 3, none⟩ (.string ((rd_T55 l0 x3_1).f3))).setCell ⟨gb108, 4, none⟩ (.bool ((rd_T55 l0 x3_1).f4))).heap[gb108]? = some (.cells #[.string ((rd_T55 l0 x3_1).f0), .slice A107_1 ((rd_T55 l0 x3_1).f1).length c107_1, .slice A107_2 ((rd_T55 l0 x3_1).f2).length c107_2, .string ((rd_T55 l0 x3_1).f3), .bool ((rd_T55 l0 x3_1).f4)] 55 (0, 0))) := ⟨zc4⟩
             have n1_ : Aside0 (Below w.heap.size w (((((w58.setCell ⟨gb108, 0, none⟩ (.string ((rd_T55 l0 x3_1).f0))).setCell ⟨gb108, 1, none⟩ (.slice A107_1 ((rd_T55 l0 x3_1).f1).length c107_1)).setCell ⟨gb108, 2, none⟩ (.slice A107_2 ((rd_T55 l0 x3_1).f2).length c107_2)).setCell ⟨gb108, 3, none⟩ (.string ((rd_T55 l0 x3_1).f3))).setCell ⟨gb108, 4, none⟩ (.bool ((rd_T55 l0 x3_1).f4)))) := ⟨zc5⟩
             (try clear BK108)
             (try clear HB)
             generalize (((((w58.setCell ⟨gb108, 0, none⟩ (.string ((rd_T55 l0 x3_1).f0))).setCell ⟨gb108, 1, none⟩ (.slice A107_1 ((rd_T55 l0 x3_1).f1).length c107_1)).setCell ⟨gb108, 2, none⟩ (.slice A107_2 ((rd_T55 l0 x3_1).f2).length c107_2)).setCell ⟨gb108, 3, none⟩ (.string ((rd_T55 l0 x3_1).f3))).setCell ⟨gb108, 4, none⟩ (.bool ((rd_T55 l0 x3_1).f4))) = w60 at n0_ n1_ ⊢
             have BK108 := n0_
             have HB := n1_
             clear n0_ n1_
             replace BK108 := Aside0.mk (blk_drew BK108.out)
             replace HB := Aside0.mk (below_drew1 HB.out)
             refine start_ (n := 49) (S := fun w' => w'.cell? ⟨gb108, 0, none⟩ = some (.string ((rd_T55 l0 x3_1).f0)) ∧ w'.cell? ⟨gb108, 1, none⟩ = some (.slice A107_1 ((rd_T55 l0 x3_1).f1).length c107_1) ∧ w'.cell? ⟨gb108, 2, none⟩ = some (.slice A107_2 ((rd_T55 l0 x3_1).f2).length c107_2) ∧ w'.cell? ⟨gb108, 3, none⟩ = some (.string ((rd_T55 l0 x3_1).f3)) ∧ w'.cell? ⟨gb108, 4, none⟩ = some (.bool ((rd_T55 l0 x3_1).f4))) (ds := []) (tf 49 0) (by kernel_rfl) rfl rfl ⟨(blk_cell BK108.out 0).trans rfl, (blk_cell BK108.out 1).trans rfl, (blk_cell BK108.out 2).trans rfl, (blk_cell BK108.out 3).trans rfl, (blk_cell BK108.out 4).trans rfl⟩ (fun hHeld => ?_); refine with_tabW spec_UnitsOk.tab7 spec_UnitsOk.bits7 (fun HT_ HW_ => ?_)
             generalize w60.drew = w61 at BK108 HB hHeld ⊢
             refine qA 0 18 (tf 49 1) ?_
             refine qT 1 19 (tf 49 3) ?_
             refine one_ (i := 2) (N := some 20) (tf 49 7) rfl rfl (one_of HT_.out (by kernel_rfl)) (by decide) (fun K hK => ?_)
             refine goes_ Try.func47 (by kernel_rfl) rfl #[.string ((rd_T55 l0 x3_1).f0)] (by rfl) rfl rfl zc6 ?_
             with_reducible refine (spec_NameOk.calls k1 ((rd_T55 l0 x3_1).f0) true _ A5.out).mono ?_
             rintro e w' ⟨rfl, ⟨nd, rfl⟩⟩
             refine ⟨_, rfl, ?_⟩
             refine hK.out _ _ ⟨(blk_cell BK108.out 0).trans rfl, (blk_cell BK108.out 1).trans rfl, (blk_cell BK108.out 2).trans rfl, (blk_cell BK108.out 3).trans rfl, (blk_cell BK108.out 4).trans rfl⟩ (fun hHeld => ?_)
             clear hK K
             refine norm_ (a' := ?_) ?_ ?_
             rotate_left
             ·show Act.put _ (some 20) _ = _
              simp only [Act.put, sT, s0, sS, i64_w, i32_w]
              rfl
             refine qA 3 21 (tf 49 15) ?_
             refine qA 4 22 (tf 49 31) ?_
             refine qA 5 23 (tf 49 63) ?_
             refine qA 6 24 (tf 49 127) ?_
             refine qA 7 25 (tf 49 255) ?_
             refine qU 8 26 (tf 49 511) ?_
             refine qU 9 27 (tf 49 1023) ?_
             refine qU 10 28 (tf 49 2047) ?_
             refine qU 11 29 (tf 49 4095) ?_
             refine qU 12 30 (tf 49 8191) ?_
             refine qU 13 31 (tf 49 16383) ?_
             refine qU 14 32 (tf 49 32767) ?_
             refine qU 15 33 (tf 49 65535) ?_
             refine qU 16 34 (tf 49 131071) ?_
             refine qA 17 35 (tf 49 262143) ?_
             refine qA 18 36 (tf 49 524287) ?_
             refine qA 19 37 (tf 49 1048575) ?_
             refine qA 20 38 (tf 49 2097151) ?_
             refine qT 21 39 (tf 49 4194303) ?_
             refine one_ (i := 22) (N := some 40) (tf 49 8388607) rfl rfl (one_of HT_.out (by kernel_rfl)) (by decide) (fun K hK => ?_)
             refine goes_ Try.func48 (by kernel_rfl) rfl #[.slice A107_1 ((rd_T55 l0 x3_1).f1).length c107_1] (by rfl) rfl rfl zc6 ?_
             with_reducible refine (spec_l17Ascending.calls k1 _ _ ((rd_T55 l0 x3_1).f1) true _ ?side1 ?side2 A49.out).mono ?_
             (case side1 => exact zc7 HR107_1.out)
             (case side2 => exact HC107_1.out)
             rintro e w' ⟨rfl, ⟨nd, rfl⟩⟩
             refine ⟨_, rfl, ?_⟩
             refine hK.out _ _ ⟨(blk_cell BK108.out 0).trans rfl, (blk_cell BK108.out 1).trans rfl, (blk_cell BK108.out 2).trans rfl, (blk_cell BK108.out 3).trans rfl, (blk_cell BK108.out 4).trans rfl⟩ (fun hHeld => ?_)
             clear hK K
             refine norm_ (a' := ?_) ?_ ?_
             rotate_left
             ·show Act.put _ (some 40) _ = _
              simp only [Act.put, sT, s0, sS, i64_w, i32_w]
              rfl
             refine qA 23 41 (tf 49 16777215) ?_
             refine qA 24 42 (tf 49 33554431) ?_
             refine qA 25 43 (tf 49 67108863) ?_
             refine qA 26 44 (tf 49 134217727) ?_
             refine qT 27 45 (tf 49 268435455) ?_
             refine one_ (i := 28) (N := some 46) (tf 49 536870911) rfl rfl (one_of HT_.out (by kernel_rfl)) (by decide) (fun K hK => ?_)
             refine goes_ Try.func48 (by kernel_rfl) rfl #[.slice A107_2 ((rd_T55 l0 x3_1).f2).length c107_2] (by rfl) rfl rfl zc6 ?_
             with_reducible refine (spec_l17Ascending.calls k1 _ _ ((rd_T55 l0 x3_1).f2) true _ ?side1 ?side2 A51.out).mono ?_
             (case side1 => exact zc7 HR107_2.out)
             (case side2 => exact HC107_2.out)
             rintro e w' ⟨rfl, ⟨nd, rfl⟩⟩
             refine ⟨_, rfl, ?_⟩
             refine hK.out _ _ ⟨(blk_cell BK108.out 0).trans rfl, (blk_cell BK108.out 1).trans rfl, (blk_cell BK108.out 2).trans rfl, (blk_cell BK108.out 3).trans rfl, (blk_cell BK108.out 4).trans rfl⟩ (fun hHeld => ?_)
             clear hK K
             refine norm_ (a' := ?_) ?_ ?_
             rotate_left
             ·show Act.put _ (some 46) _ = _
              simp only [Act.put, sT, s0, sS, i64_w, i32_w]
              rfl
             refine qA 29 47 (tf 49 1073741823) ?_
             refine qA 30 48 (tf 49 2147483647) ?_
             refine qA 31 49 (tf 49 4294967295) ?_
             refine qA 32 50 (tf 49 8589934591) ?_
             refine qT 33 51 (tf 49 17179869183) ?_
             refine one_ (i := 34) (N := some 52) (tf 49 34359738367) rfl rfl (one_of HT_.out (by kernel_rfl)) (by decide) (fun K hK => ?_)
             refine goes_ Try.func49 (by kernel_rfl) rfl #[.slice A107_1 ((rd_T55 l0 x3_1).f1).length c107_1] (by rfl) rfl rfl zc6 ?_
             with_reducible refine (spec_l8Names.calls k1 _ _ ((rd_T55 l0 x3_1).f1) true _ ?side1 ?side2 A53.out).mono ?_
             (case side1 => exact zc7 HR107_1.out)
             (case side2 => exact HC107_1.out)
             rintro e w' ⟨rfl, ⟨nd, rfl⟩⟩
             refine ⟨_, rfl, ?_⟩
             refine hK.out _ _ ⟨(blk_cell BK108.out 0).trans rfl, (blk_cell BK108.out 1).trans rfl, (blk_cell BK108.out 2).trans rfl, (blk_cell BK108.out 3).trans rfl, (blk_cell BK108.out 4).trans rfl⟩ (fun hHeld => ?_)
             clear hK K
             refine norm_ (a' := ?_) ?_ ?_
             rotate_left
             ·show Act.put _ (some 52) _ = _
              simp only [Act.put, sT, s0, sS, i64_w, i32_w]
              rfl
             refine qA 35 53 (tf 49 68719476735) ?_
             refine qA 36 54 (tf 49 137438953471) ?_
             refine qA 37 55 (tf 49 274877906943) ?_
             refine qA 38 56 (tf 49 549755813887) ?_
             refine qT 39 57 (tf 49 1099511627775) ?_
             refine one_ (i := 40) (N := some 58) (tf 49 2199023255551) rfl rfl (one_of HT_.out (by kernel_rfl)) (by decide) (fun K hK => ?_)
             refine goes_ Try.func49 (by kernel_rfl) rfl #[.slice A107_2 ((rd_T55 l0 x3_1).f2).length c107_2] (by rfl) rfl rfl zc6 ?_
             with_reducible refine (spec_l8Names.calls k1 _ _ ((rd_T55 l0 x3_1).f2) true _ ?side1 ?side2 A55.out).mono ?_
             (case side1 => exact zc7 HR107_2.out)
             (case side2 => exact HC107_2.out)
             rintro e w' ⟨rfl, ⟨nd, rfl⟩⟩
             refine ⟨_, rfl, ?_⟩
             refine hK.out _ _ ⟨(blk_cell BK108.out 0).trans rfl, (blk_cell BK108.out 1).trans rfl, (blk_cell BK108.out 2).trans rfl, (blk_cell BK108.out 3).trans rfl, (blk_cell BK108.out 4).trans rfl⟩ (fun hHeld => ?_)
             clear hK K
             refine norm_ (a' := ?_) ?_ ?_
             rotate_left
             ·show Act.put _ (some 58) _ = _
              simp only [Act.put, sT, s0, sS, i64_w, i32_w]
              rfl
             refine qA 41 59 (tf 49 4398046511103) ?_
             refine qA 42 60 (tf 49 8796093022207) ?_
             refine qA 43 61 (tf 49 17592186044415) ?_
             refine qA 44 62 (tf 49 35184372088831) ?_
             refine qT 45 63 (tf 49 70368744177663) ?_
             refine qA 46 64 (tf 49 140737488355327) ?_
             refine qA 47 65 (tf 49 281474976710655) ?_
             refine qA 48 66 (tf 49 562949953421311) ?_
             refine done_ (done_of HT_.out (by kernel_rfl)) ?_
             try go_wp2
             go_ret
             exact ⟨zc0, zc5⟩
            ·rw [if_neg c57] at H
             have c57b0 : decide (4000 < (((rd_T55 l0 x3_1).f3).size : Int)) = false := decide_eq_false c57
             have c57b1 : decide (4000 < ((rd_T55 l0 x3_1).f3).size) = false := decide_eq_false (by omega)
             clear c57
             have H' := Aside0.mk H
             clear H
             have p107 : 0 ≤ (x3_1 : Int) := of_decide_eq_true zc3
             have q107 : x3_1 < (l0.length : Int) := of_decide_eq_true zc3
             obtain ⟨ad107, A107_1, c107_1, A107_2, c107_2, e107, hx107_0, hx107_1, hx107_2, hx107_3, hx107_4, hl107_1, hi107_1, hl107_2, hi107_2⟩ := at_T55 HR0.out x3_1 p107 q107
             cases e107
             try (replace hx107_0 := (HB.out.cell (World.block_lt_of_cell? w _ hx107_0)).trans hx107_0)
             try (replace hx107_1 := (HB.out.cell (World.block_lt_of_cell? w _ hx107_1)).trans hx107_1)
             try (replace hx107_2 := (HB.out.cell (World.block_lt_of_cell? w _ hx107_2)).trans hx107_2)
             try (replace hx107_3 := (HB.out.cell (World.block_lt_of_cell? w _ hx107_3)).trans hx107_3)
             try (replace hx107_4 := (HB.out.cell (World.block_lt_of_cell? w _ hx107_4)).trans hx107_4)
             have HR107_1 := Aside0.mk hi107_1
             have HC107_1 := Aside0.mk hl107_1
             clear hi107_1 hl107_1
             have HR107_2 := Aside0.mk hi107_2
             have HC107_2 := Aside0.mk hl107_2
             clear hi107_2 hl107_2
             replace p107 := eq_true p107
             replace q107 := eq_true q107
             try go_wp2_with (first | ((with_reducible refine gate_dst (N := 4) rfl ?_); (try (refine gate_guard (by rfl) ?_; dsimp only)); refine box_event ?hg (N := 4) ?hd (cs := #[.string (⟨#[]⟩ : ByteArray), .slice none 0 0, .slice none 0 0, .string (⟨#[]⟩ : ByteArray), .bool false]) (t := 55) ?hr ?_; (case hd => rfl); (case hg => rfl); (case hr => first | (go_simp; done) | (go_simp; rfl)); intro gb108 hg w62 hbox hb; have BK108 := Aside0.mk (hbox); have GW108 := Aside0.mk ((by rw [hg]; exact (below_size qB) : w.heap.size ≤ gb108)); have GE108 := Aside0.mk ((by rw [hg]; exact (below_size qB) : w.heap.size ≤ gb108)); replace HB := Aside0.mk (below_step qB hb); clear hb hbox hg; have hcz63_0 : w62.cell? ⟨gb108, 0, none⟩ = some (.string (⟨#[]⟩ : ByteArray)) := (blk_cell BK108.out 0).trans rfl; have hcz63_1 : w62.cell? ⟨gb108, 1, none⟩ = some (.slice none 0 0) := (blk_cell BK108.out 1).trans rfl; have hcz63_2 : w62.cell? ⟨gb108, 2, none⟩ = some (.slice none 0 0) := (blk_cell BK108.out 2).trans rfl; have hcz63_3 : w62.cell? ⟨gb108, 3, none⟩ = some (.string (⟨#[]⟩ : ByteArray)) := (blk_cell BK108.out 3).trans rfl; have hcz63_4 : w62.cell? ⟨gb108, 4, none⟩ = some (.bool false) := (blk_cell BK108.out 4).trans rfl; have hfz63_0 := blk_frozen BK108.out 0; have hfz63_1 := blk_frozen BK108.out 1; have hfz63_2 := blk_frozen BK108.out 2; have hfz63_3 := blk_frozen BK108.out 3; have hfz63_4 := blk_frozen BK108.out 4))
             have n0_ : Aside0 ((((((w62.setCell ⟨gb108, 0, none⟩ (.string ((rd_T55 l0 x3_1).f0))).setCell ⟨gb108, 1, none⟩ (.slice A107_1 ((rd_T55 l0 x3_1).f1).length c107_1)).setCell ⟨gb108, 2, none⟩ (.slice A107_2 ((rd_T55 l0 x3_1).f2).length c107_2)).setCell ⟨gb108, 3, none⟩ (.string ((rd_T55 l0 x3_1).f3))).setCell ⟨gb108, 4, none⟩ (.bool ((rd_T55 l0 x3_1).f4))).heap[gb108]? = some (.cells #[.string ((rd_T55 l0 x3_1).f0), .slice A107_1 ((rd_T55 l0 x3_1).f1).length c107_1, .slice A107_2 ((rd_T55 l0 x3_1).f2).length c107_2, .string ((rd_T55 l0 x3_1).f3), .bool ((rd_T55 l0 x3_1).f4)] 55 (0, 0))) := ⟨zc4⟩
             have n1_ : Aside0 (Below w.heap.size w (((((w62.setCell ⟨gb108, 0, none⟩ (.string ((rd_T55 l0 x3_1).f0))).setCell ⟨gb108, 1, none⟩ (.slice A107_1 ((rd_T55 l0 x3_1).f1).length c107_1)).setCell ⟨gb108, 2, none⟩ (.slice A107_2 ((rd_T55 l0 x3_1).f2).length c107_2)).setCell ⟨gb108, 3, none⟩ (.string ((rd_T55 l0 x3_1).f3))).setCell ⟨gb108, 4, none⟩ (.bool ((rd_T55 l0 x3_1).f4)))) := ⟨zc5⟩
             (try clear BK108)
             (try clear HB)
             generalize (((((w62.setCell ⟨gb108, 0, none⟩ (.string ((rd_T55 l0 x3_1).f0))).setCell ⟨gb108, 1, none⟩ (.slice A107_1 ((rd_T55 l0 x3_1).f1).length c107_1)).setCell ⟨gb108, 2, none⟩ (.slice A107_2 ((rd_T55 l0 x3_1).f2).length c107_2)).setCell ⟨gb108, 3, none⟩ (.string ((rd_T55 l0 x3_1).f3))).setCell ⟨gb108, 4, none⟩ (.bool ((rd_T55 l0 x3_1).f4))) = w64 at n0_ n1_ ⊢
             have BK108 := n0_
             have HB := n1_
             clear n0_ n1_
             replace BK108 := Aside0.mk (blk_drew BK108.out)
             replace HB := Aside0.mk (below_drew1 HB.out)
             refine start_ (n := 49) (S := fun w' => w'.cell? ⟨gb108, 0, none⟩ = some (.string ((rd_T55 l0 x3_1).f0)) ∧ w'.cell? ⟨gb108, 1, none⟩ = some (.slice A107_1 ((rd_T55 l0 x3_1).f1).length c107_1) ∧ w'.cell? ⟨gb108, 2, none⟩ = some (.slice A107_2 ((rd_T55 l0 x3_1).f2).length c107_2) ∧ w'.cell? ⟨gb108, 3, none⟩ = some (.string ((rd_T55 l0 x3_1).f3)) ∧ w'.cell? ⟨gb108, 4, none⟩ = some (.bool ((rd_T55 l0 x3_1).f4))) (ds := []) (tf 49 0) (by kernel_rfl) rfl rfl ⟨(blk_cell BK108.out 0).trans rfl, (blk_cell BK108.out 1).trans rfl, (blk_cell BK108.out 2).trans rfl, (blk_cell BK108.out 3).trans rfl, (blk_cell BK108.out 4).trans rfl⟩ (fun hHeld => ?_); refine with_tabW spec_UnitsOk.tab7 spec_UnitsOk.bits7 (fun HT_ HW_ => ?_)
             generalize w64.drew = w65 at BK108 HB hHeld ⊢
             refine qA 0 18 (tf 49 1) ?_
             refine qT 1 19 (tf 49 3) ?_
             refine one_ (i := 2) (N := some 20) (tf 49 7) rfl rfl (one_of HT_.out (by kernel_rfl)) (by decide) (fun K hK => ?_)
             refine goes_ Try.func47 (by kernel_rfl) rfl #[.string ((rd_T55 l0 x3_1).f0)] (by rfl) rfl rfl zc6 ?_
             with_reducible refine (spec_NameOk.calls k1 ((rd_T55 l0 x3_1).f0) true _ A5.out).mono ?_
             rintro e w' ⟨rfl, ⟨nd, rfl⟩⟩
             refine ⟨_, rfl, ?_⟩
             refine hK.out _ _ ⟨(blk_cell BK108.out 0).trans rfl, (blk_cell BK108.out 1).trans rfl, (blk_cell BK108.out 2).trans rfl, (blk_cell BK108.out 3).trans rfl, (blk_cell BK108.out 4).trans rfl⟩ (fun hHeld => ?_)
             clear hK K
             refine norm_ (a' := ?_) ?_ ?_
             rotate_left
             ·show Act.put _ (some 20) _ = _
              simp only [Act.put, sT, s0, sS, i64_w, i32_w]
              rfl
             refine qA 3 21 (tf 49 15) ?_
             refine qA 4 22 (tf 49 31) ?_
             refine qA 5 23 (tf 49 63) ?_
             refine qA 6 24 (tf 49 127) ?_
             refine qA 7 25 (tf 49 255) ?_
             refine qU 8 26 (tf 49 511) ?_
             refine qU 9 27 (tf 49 1023) ?_
             refine qU 10 28 (tf 49 2047) ?_
             refine qU 11 29 (tf 49 4095) ?_
             refine qU 12 30 (tf 49 8191) ?_
             refine qU 13 31 (tf 49 16383) ?_
             refine qU 14 32 (tf 49 32767) ?_
             refine qU 15 33 (tf 49 65535) ?_
             refine qU 16 34 (tf 49 131071) ?_
             refine qA 17 35 (tf 49 262143) ?_
             refine qA 18 36 (tf 49 524287) ?_
             refine qA 19 37 (tf 49 1048575) ?_
             refine qA 20 38 (tf 49 2097151) ?_
             refine qT 21 39 (tf 49 4194303) ?_
             refine one_ (i := 22) (N := some 40) (tf 49 8388607) rfl rfl (one_of HT_.out (by kernel_rfl)) (by decide) (fun K hK => ?_)
             refine goes_ Try.func48 (by kernel_rfl) rfl #[.slice A107_1 ((rd_T55 l0 x3_1).f1).length c107_1] (by rfl) rfl rfl zc6 ?_
             with_reducible refine (spec_l17Ascending.calls k1 _ _ ((rd_T55 l0 x3_1).f1) true _ ?side1 ?side2 A49.out).mono ?_
             (case side1 => exact zc7 HR107_1.out)
             (case side2 => exact HC107_1.out)
             rintro e w' ⟨rfl, ⟨nd, rfl⟩⟩
             refine ⟨_, rfl, ?_⟩
             refine hK.out _ _ ⟨(blk_cell BK108.out 0).trans rfl, (blk_cell BK108.out 1).trans rfl, (blk_cell BK108.out 2).trans rfl, (blk_cell BK108.out 3).trans rfl, (blk_cell BK108.out 4).trans rfl⟩ (fun hHeld => ?_)
             clear hK K
             refine norm_ (a' := ?_) ?_ ?_
             rotate_left
             ·show Act.put _ (some 40) _ = _
              simp only [Act.put, sT, s0, sS, i64_w, i32_w]
              rfl
             refine qA 23 41 (tf 49 16777215) ?_
             refine qA 24 42 (tf 49 33554431) ?_
             refine qA 25 43 (tf 49 67108863) ?_
             refine qA 26 44 (tf 49 134217727) ?_
             refine qT 27 45 (tf 49 268435455) ?_
             refine one_ (i := 28) (N := some 46) (tf 49 536870911) rfl rfl (one_of HT_.out (by kernel_rfl)) (by decide) (fun K hK => ?_)
             refine goes_ Try.func48 (by kernel_rfl) rfl #[.slice A107_2 ((rd_T55 l0 x3_1).f2).length c107_2] (by rfl) rfl rfl zc6 ?_
             with_reducible refine (spec_l17Ascending.calls k1 _ _ ((rd_T55 l0 x3_1).f2) true _ ?side1 ?side2 A51.out).mono ?_
             (case side1 => exact zc7 HR107_2.out)
             (case side2 => exact HC107_2.out)
             rintro e w' ⟨rfl, ⟨nd, rfl⟩⟩
             refine ⟨_, rfl, ?_⟩
             refine hK.out _ _ ⟨(blk_cell BK108.out 0).trans rfl, (blk_cell BK108.out 1).trans rfl, (blk_cell BK108.out 2).trans rfl, (blk_cell BK108.out 3).trans rfl, (blk_cell BK108.out 4).trans rfl⟩ (fun hHeld => ?_)
             clear hK K
             refine norm_ (a' := ?_) ?_ ?_
             rotate_left
             ·show Act.put _ (some 46) _ = _
              simp only [Act.put, sT, s0, sS, i64_w, i32_w]
              rfl
             refine qA 29 47 (tf 49 1073741823) ?_
             refine qA 30 48 (tf 49 2147483647) ?_
             refine qA 31 49 (tf 49 4294967295) ?_
             refine qA 32 50 (tf 49 8589934591) ?_
             refine qT 33 51 (tf 49 17179869183) ?_
             refine one_ (i := 34) (N := some 52) (tf 49 34359738367) rfl rfl (one_of HT_.out (by kernel_rfl)) (by decide) (fun K hK => ?_)
             refine goes_ Try.func49 (by kernel_rfl) rfl #[.slice A107_1 ((rd_T55 l0 x3_1).f1).length c107_1] (by rfl) rfl rfl zc6 ?_
             with_reducible refine (spec_l8Names.calls k1 _ _ ((rd_T55 l0 x3_1).f1) true _ ?side1 ?side2 A53.out).mono ?_
             (case side1 => exact zc7 HR107_1.out)
             (case side2 => exact HC107_1.out)
             rintro e w' ⟨rfl, ⟨nd, rfl⟩⟩
             refine ⟨_, rfl, ?_⟩
             refine hK.out _ _ ⟨(blk_cell BK108.out 0).trans rfl, (blk_cell BK108.out 1).trans rfl, (blk_cell BK108.out 2).trans rfl, (blk_cell BK108.out 3).trans rfl, (blk_cell BK108.out 4).trans rfl⟩ (fun hHeld => ?_)
             clear hK K
             refine norm_ (a' := ?_) ?_ ?_
             rotate_left
             ·show Act.put _ (some 52) _ = _
              simp only [Act.put, sT, s0, sS, i64_w, i32_w]
              rfl
             refine qA 35 53 (tf 49 68719476735) ?_
             refine qA 36 54 (tf 49 137438953471) ?_
             refine qA 37 55 (tf 49 274877906943) ?_
             refine qA 38 56 (tf 49 549755813887) ?_
             refine qT 39 57 (tf 49 1099511627775) ?_
             refine one_ (i := 40) (N := some 58) (tf 49 2199023255551) rfl rfl (one_of HT_.out (by kernel_rfl)) (by decide) (fun K hK => ?_)
             refine goes_ Try.func49 (by kernel_rfl) rfl #[.slice A107_2 ((rd_T55 l0 x3_1).f2).length c107_2] (by rfl) rfl rfl zc6 ?_
             with_reducible refine (spec_l8Names.calls k1 _ _ ((rd_T55 l0 x3_1).f2) true _ ?side1 ?side2 A55.out).mono ?_
             (case side1 => exact zc7 HR107_2.out)
             (case side2 => exact HC107_2.out)
             rintro e w' ⟨rfl, ⟨nd, rfl⟩⟩
             refine ⟨_, rfl, ?_⟩
             refine hK.out _ _ ⟨(blk_cell BK108.out 0).trans rfl, (blk_cell BK108.out 1).trans rfl, (blk_cell BK108.out 2).trans rfl, (blk_cell BK108.out 3).trans rfl, (blk_cell BK108.out 4).trans rfl⟩ (fun hHeld => ?_)
             clear hK K
             refine norm_ (a' := ?_) ?_ ?_
             rotate_left
             ·show Act.put _ (some 58) _ = _
              simp only [Act.put, sT, s0, sS, i64_w, i32_w]
              rfl
             refine qA 41 59 (tf 49 4398046511103) ?_
             refine qA 42 60 (tf 49 8796093022207) ?_
             refine qA 43 61 (tf 49 17592186044415) ?_
             refine qA 44 62 (tf 49 35184372088831) ?_
             refine qT 45 63 (tf 49 70368744177663) ?_
             refine qA 46 64 (tf 49 140737488355327) ?_
             refine qA 47 65 (tf 49 281474976710655) ?_
             refine qA 48 66 (tf 49 562949953421311) ?_
             refine done_ (done_of HT_.out (by kernel_rfl)) ?_
             try go_wp2
             go_roundg k1
             case measure => have := HK1.out; omega
             case rel => exact ⟨(wrap64 (x3_1 + 1)), zc2, H', ⟨by have := HK1.out; omega⟩, ⟨zc5⟩⟩
           ·replace c56 := Bool.eq_false_iff.mpr c56
            subst c56
            have H1 : (some false) = some r := by rw [if_neg (show ¬ (false = true) by decide)] at H; exact H
            clear H
            have H := H1
            clear H1
            obtain rfl := Option.some.inj H
            have p107 : 0 ≤ (x3_1 : Int) := of_decide_eq_true zc3
            have q107 : x3_1 < (l0.length : Int) := of_decide_eq_true zc3
            obtain ⟨ad107, A107_1, c107_1, A107_2, c107_2, e107, hx107_0, hx107_1, hx107_2, hx107_3, hx107_4, hl107_1, hi107_1, hl107_2, hi107_2⟩ := at_T55 HR0.out x3_1 p107 q107
            cases e107
            try (replace hx107_0 := (HB.out.cell (World.block_lt_of_cell? w _ hx107_0)).trans hx107_0)
            try (replace hx107_1 := (HB.out.cell (World.block_lt_of_cell? w _ hx107_1)).trans hx107_1)
            try (replace hx107_2 := (HB.out.cell (World.block_lt_of_cell? w _ hx107_2)).trans hx107_2)
            try (replace hx107_3 := (HB.out.cell (World.block_lt_of_cell? w _ hx107_3)).trans hx107_3)
            try (replace hx107_4 := (HB.out.cell (World.block_lt_of_cell? w _ hx107_4)).trans hx107_4)
            have HR107_1 := Aside0.mk hi107_1
            have HC107_1 := Aside0.mk hl107_1
            clear hi107_1 hl107_1
            have HR107_2 := Aside0.mk hi107_2
            have HC107_2 := Aside0.mk hl107_2
            clear hi107_2 hl107_2
            replace p107 := eq_true p107
            replace q107 := eq_true q107
            try go_wp2_with (first | ((with_reducible refine gate_dst (N := 4) rfl ?_); (try (refine gate_guard (by rfl) ?_; dsimp only)); refine box_event ?hg (N := 4) ?hd (cs := #[.string (⟨#[]⟩ : ByteArray), .slice none 0 0, .slice none 0 0, .string (⟨#[]⟩ : ByteArray), .bool false]) (t := 55) ?hr ?_; (case hd => rfl); (case hg => rfl); (case hr => first | (go_simp; done) | (go_simp; rfl)); intro gb108 hg w66 hbox hb; have BK108 := Aside0.mk (hbox); have GW108 := Aside0.mk ((by rw [hg]; exact (below_size qB) : w.heap.size ≤ gb108)); have GE108 := Aside0.mk ((by rw [hg]; exact (below_size qB) : w.heap.size ≤ gb108)); replace HB := Aside0.mk (below_step qB hb); clear hb hbox hg; have hcz67_0 : w66.cell? ⟨gb108, 0, none⟩ = some (.string (⟨#[]⟩ : ByteArray)) := (blk_cell BK108.out 0).trans rfl; have hcz67_1 : w66.cell? ⟨gb108, 1, none⟩ = some (.slice none 0 0) := (blk_cell BK108.out 1).trans rfl; have hcz67_2 : w66.cell? ⟨gb108, 2, none⟩ = some (.slice none 0 0) := (blk_cell BK108.out 2).trans rfl; have hcz67_3 : w66.cell? ⟨gb108, 3, none⟩ = some (.string (⟨#[]⟩ : ByteArray)) := (blk_cell BK108.out 3).trans rfl; have hcz67_4 : w66.cell? ⟨gb108, 4, none⟩ = some (.bool false) := (blk_cell BK108.out 4).trans rfl; have hfz67_0 := blk_frozen BK108.out 0; have hfz67_1 := blk_frozen BK108.out 1; have hfz67_2 := blk_frozen BK108.out 2; have hfz67_3 := blk_frozen BK108.out 3; have hfz67_4 := blk_frozen BK108.out 4))
            have n0_ : Aside0 ((((((w66.setCell ⟨gb108, 0, none⟩ (.string ((rd_T55 l0 x3_1).f0))).setCell ⟨gb108, 1, none⟩ (.slice A107_1 ((rd_T55 l0 x3_1).f1).length c107_1)).setCell ⟨gb108, 2, none⟩ (.slice A107_2 ((rd_T55 l0 x3_1).f2).length c107_2)).setCell ⟨gb108, 3, none⟩ (.string ((rd_T55 l0 x3_1).f3))).setCell ⟨gb108, 4, none⟩ (.bool ((rd_T55 l0 x3_1).f4))).heap[gb108]? = some (.cells #[.string ((rd_T55 l0 x3_1).f0), .slice A107_1 ((rd_T55 l0 x3_1).f1).length c107_1, .slice A107_2 ((rd_T55 l0 x3_1).f2).length c107_2, .string ((rd_T55 l0 x3_1).f3), .bool ((rd_T55 l0 x3_1).f4)] 55 (0, 0))) := ⟨zc4⟩
            have n1_ : Aside0 (Below w.heap.size w (((((w66.setCell ⟨gb108, 0, none⟩ (.string ((rd_T55 l0 x3_1).f0))).setCell ⟨gb108, 1, none⟩ (.slice A107_1 ((rd_T55 l0 x3_1).f1).length c107_1)).setCell ⟨gb108, 2, none⟩ (.slice A107_2 ((rd_T55 l0 x3_1).f2).length c107_2)).setCell ⟨gb108, 3, none⟩ (.string ((rd_T55 l0 x3_1).f3))).setCell ⟨gb108, 4, none⟩ (.bool ((rd_T55 l0 x3_1).f4)))) := ⟨zc5⟩
            (try clear BK108)
            (try clear HB)
            generalize (((((w66.setCell ⟨gb108, 0, none⟩ (.string ((rd_T55 l0 x3_1).f0))).setCell ⟨gb108, 1, none⟩ (.slice A107_1 ((rd_T55 l0 x3_1).f1).length c107_1)).setCell ⟨gb108, 2, none⟩ (.slice A107_2 ((rd_T55 l0 x3_1).f2).length c107_2)).setCell ⟨gb108, 3, none⟩ (.string ((rd_T55 l0 x3_1).f3))).setCell ⟨gb108, 4, none⟩ (.bool ((rd_T55 l0 x3_1).f4))) = w68 at n0_ n1_ ⊢
            have BK108 := n0_
            have HB := n1_
            clear n0_ n1_
            replace BK108 := Aside0.mk (blk_drew BK108.out)
            replace HB := Aside0.mk (below_drew1 HB.out)
            refine start_ (n := 49) (S := fun w' => w'.cell? ⟨gb108, 0, none⟩ = some (.string ((rd_T55 l0 x3_1).f0)) ∧ w'.cell? ⟨gb108, 1, none⟩ = some (.slice A107_1 ((rd_T55 l0 x3_1).f1).length c107_1) ∧ w'.cell? ⟨gb108, 2, none⟩ = some (.slice A107_2 ((rd_T55 l0 x3_1).f2).length c107_2) ∧ w'.cell? ⟨gb108, 3, none⟩ = some (.string ((rd_T55 l0 x3_1).f3)) ∧ w'.cell? ⟨gb108, 4, none⟩ = some (.bool ((rd_T55 l0 x3_1).f4))) (ds := []) (tf 49 0) (by kernel_rfl) rfl rfl ⟨(blk_cell BK108.out 0).trans rfl, (blk_cell BK108.out 1).trans rfl, (blk_cell BK108.out 2).trans rfl, (blk_cell BK108.out 3).trans rfl, (blk_cell BK108.out 4).trans rfl⟩ (fun hHeld => ?_); refine with_tabW spec_UnitsOk.tab7 spec_UnitsOk.bits7 (fun HT_ HW_ => ?_)
            generalize w68.drew = w69 at BK108 HB hHeld ⊢
            refine qA 0 18 (tf 49 1) ?_
            refine qT 1 19 (tf 49 3) ?_
            refine one_ (i := 2) (N := some 20) (tf 49 7) rfl rfl (one_of HT_.out (by kernel_rfl)) (by decide) (fun K hK => ?_)
            refine goes_ Try.func47 (by kernel_rfl) rfl #[.string ((rd_T55 l0 x3_1).f0)] (by rfl) rfl rfl zc6 ?_
            with_reducible refine (spec_NameOk.calls k1 ((rd_T55 l0 x3_1).f0) true _ A5.out).mono ?_
            rintro e w' ⟨rfl, ⟨nd, rfl⟩⟩
            refine ⟨_, rfl, ?_⟩
            refine hK.out _ _ ⟨(blk_cell BK108.out 0).trans rfl, (blk_cell BK108.out 1).trans rfl, (blk_cell BK108.out 2).trans rfl, (blk_cell BK108.out 3).trans rfl, (blk_cell BK108.out 4).trans rfl⟩ (fun hHeld => ?_)
            clear hK K
            refine norm_ (a' := ?_) ?_ ?_
            rotate_left
            ·show Act.put _ (some 20) _ = _
             simp only [Act.put, sT, s0, sS, i64_w, i32_w]
             rfl
            refine qA 3 21 (tf 49 15) ?_
            refine qA 4 22 (tf 49 31) ?_
            refine qA 5 23 (tf 49 63) ?_
            refine qA 6 24 (tf 49 127) ?_
            refine qA 7 25 (tf 49 255) ?_
            refine qU 8 26 (tf 49 511) ?_
            refine qU 9 27 (tf 49 1023) ?_
            refine qU 10 28 (tf 49 2047) ?_
            refine qU 11 29 (tf 49 4095) ?_
            refine qU 12 30 (tf 49 8191) ?_
            refine qU 13 31 (tf 49 16383) ?_
            refine qU 14 32 (tf 49 32767) ?_
            refine qU 15 33 (tf 49 65535) ?_
            refine qU 16 34 (tf 49 131071) ?_
            refine qA 17 35 (tf 49 262143) ?_
            refine qA 18 36 (tf 49 524287) ?_
            refine qA 19 37 (tf 49 1048575) ?_
            refine qA 20 38 (tf 49 2097151) ?_
            refine qT 21 39 (tf 49 4194303) ?_
            refine one_ (i := 22) (N := some 40) (tf 49 8388607) rfl rfl (one_of HT_.out (by kernel_rfl)) (by decide) (fun K hK => ?_)
            refine goes_ Try.func48 (by kernel_rfl) rfl #[.slice A107_1 ((rd_T55 l0 x3_1).f1).length c107_1] (by rfl) rfl rfl zc6 ?_
            with_reducible refine (spec_l17Ascending.calls k1 _ _ ((rd_T55 l0 x3_1).f1) true _ ?side1 ?side2 A49.out).mono ?_
            (case side1 => exact zc7 HR107_1.out)
            (case side2 => exact HC107_1.out)
            rintro e w' ⟨rfl, ⟨nd, rfl⟩⟩
            refine ⟨_, rfl, ?_⟩
            refine hK.out _ _ ⟨(blk_cell BK108.out 0).trans rfl, (blk_cell BK108.out 1).trans rfl, (blk_cell BK108.out 2).trans rfl, (blk_cell BK108.out 3).trans rfl, (blk_cell BK108.out 4).trans rfl⟩ (fun hHeld => ?_)
            clear hK K
            refine norm_ (a' := ?_) ?_ ?_
            rotate_left
            ·show Act.put _ (some 40) _ = _
             simp only [Act.put, sT, s0, sS, i64_w, i32_w]
             rfl
            refine qA 23 41 (tf 49 16777215) ?_
            refine qA 24 42 (tf 49 33554431) ?_
            refine qA 25 43 (tf 49 67108863) ?_
            refine qA 26 44 (tf 49 134217727) ?_
            refine qT 27 45 (tf 49 268435455) ?_
            refine one_ (i := 28) (N := some 46) (tf 49 536870911) rfl rfl (one_of HT_.out (by kernel_rfl)) (by decide) (fun K hK => ?_)
            refine goes_ Try.func48 (by kernel_rfl) rfl #[.slice A107_2 ((rd_T55 l0 x3_1).f2).length c107_2] (by rfl) rfl rfl zc6 ?_
            with_reducible refine (spec_l17Ascending.calls k1 _ _ ((rd_T55 l0 x3_1).f2) true _ ?side1 ?side2 A51.out).mono ?_
            (case side1 => exact zc7 HR107_2.out)
            (case side2 => exact HC107_2.out)
            rintro e w' ⟨rfl, ⟨nd, rfl⟩⟩
            refine ⟨_, rfl, ?_⟩
            refine hK.out _ _ ⟨(blk_cell BK108.out 0).trans rfl, (blk_cell BK108.out 1).trans rfl, (blk_cell BK108.out 2).trans rfl, (blk_cell BK108.out 3).trans rfl, (blk_cell BK108.out 4).trans rfl⟩ (fun hHeld => ?_)
            clear hK K
            refine norm_ (a' := ?_) ?_ ?_
            rotate_left
            ·show Act.put _ (some 46) _ = _
             simp only [Act.put, sT, s0, sS, i64_w, i32_w]
             rfl
            refine qA 29 47 (tf 49 1073741823) ?_
            refine qA 30 48 (tf 49 2147483647) ?_
            refine qA 31 49 (tf 49 4294967295) ?_
            refine qA 32 50 (tf 49 8589934591) ?_
            refine qT 33 51 (tf 49 17179869183) ?_
            refine one_ (i := 34) (N := some 52) (tf 49 34359738367) rfl rfl (one_of HT_.out (by kernel_rfl)) (by decide) (fun K hK => ?_)
            refine goes_ Try.func49 (by kernel_rfl) rfl #[.slice A107_1 ((rd_T55 l0 x3_1).f1).length c107_1] (by rfl) rfl rfl zc6 ?_
            with_reducible refine (spec_l8Names.calls k1 _ _ ((rd_T55 l0 x3_1).f1) true _ ?side1 ?side2 A53.out).mono ?_
            (case side1 => exact zc7 HR107_1.out)
            (case side2 => exact HC107_1.out)
            rintro e w' ⟨rfl, ⟨nd, rfl⟩⟩
            refine ⟨_, rfl, ?_⟩
            refine hK.out _ _ ⟨(blk_cell BK108.out 0).trans rfl, (blk_cell BK108.out 1).trans rfl, (blk_cell BK108.out 2).trans rfl, (blk_cell BK108.out 3).trans rfl, (blk_cell BK108.out 4).trans rfl⟩ (fun hHeld => ?_)
            clear hK K
            refine norm_ (a' := ?_) ?_ ?_
            rotate_left
            ·show Act.put _ (some 52) _ = _
             simp only [Act.put, sT, s0, sS, i64_w, i32_w]
             rfl
            refine qA 35 53 (tf 49 68719476735) ?_
            refine qA 36 54 (tf 49 137438953471) ?_
            refine qA 37 55 (tf 49 274877906943) ?_
            refine qA 38 56 (tf 49 549755813887) ?_
            refine qT 39 57 (tf 49 1099511627775) ?_
            refine one_ (i := 40) (N := some 58) (tf 49 2199023255551) rfl rfl (one_of HT_.out (by kernel_rfl)) (by decide) (fun K hK => ?_)
            refine goes_ Try.func49 (by kernel_rfl) rfl #[.slice A107_2 ((rd_T55 l0 x3_1).f2).length c107_2] (by rfl) rfl rfl zc6 ?_
            with_reducible refine (spec_l8Names.calls k1 _ _ ((rd_T55 l0 x3_1).f2) false _ ?side1 ?side2 A55.out).mono ?_
            (case side1 => exact zc7 HR107_2.out)
            (case side2 => exact HC107_2.out)
            rintro e w' ⟨rfl, ⟨nd, rfl⟩⟩
            refine ⟨_, rfl, ?_⟩
            refine hK.out _ _ ⟨(blk_cell BK108.out 0).trans rfl, (blk_cell BK108.out 1).trans rfl, (blk_cell BK108.out 2).trans rfl, (blk_cell BK108.out 3).trans rfl, (blk_cell BK108.out 4).trans rfl⟩ (fun hHeld => ?_)
            clear hK K
            refine norm_ (a' := ?_) ?_ ?_
            rotate_left
            ·show Act.put _ (some 58) _ = _
             simp only [Act.put, sT, s0, sS, i64_w, i32_w]
             rfl
            refine qA 41 59 (tf 49 4398046511103) ?_
            refine qA 42 60 (tf 49 8796093022207) ?_
            refine qA 43 61 (tf 49 17592186044415) ?_
            refine qU 44 62 (tf 49 35184372088831) ?_
            refine qU 45 63 (tf 49 70368744177663) ?_
            refine qU 46 64 (tf 49 140737488355327) ?_
            refine qU 47 65 (tf 49 281474976710655) ?_
            refine qA 48 66 (tf 49 562949953421311) ?_
            refine done_ (done_of HT_.out (by kernel_rfl)) ?_
            try go_wp2
            go_ret
            exact ⟨zc0, zc5⟩
          ·replace c54 := Bool.eq_false_iff.mpr c54
           subst c54
           have H1 : (some false) = some r := by rw [if_neg (show ¬ (false = true) by decide)] at H; exact H
           clear H
           have H := H1
           clear H1
           obtain rfl := Option.some.inj H
           have p107 : 0 ≤ (x3_1 : Int) := of_decide_eq_true zc3
           have q107 : x3_1 < (l0.length : Int) := of_decide_eq_true zc3
           obtain ⟨ad107, A107_1, c107_1, A107_2, c107_2, e107, hx107_0, hx107_1, hx107_2, hx107_3, hx107_4, hl107_1, hi107_1, hl107_2, hi107_2⟩ := at_T55 HR0.out x3_1 p107 q107
           cases e107
           try (replace hx107_0 := (HB.out.cell (World.block_lt_of_cell? w _ hx107_0)).trans hx107_0)
           try (replace hx107_1 := (HB.out.cell (World.block_lt_of_cell? w _ hx107_1)).trans hx107_1)
           try (replace hx107_2 := (HB.out.cell (World.block_lt_of_cell? w _ hx107_2)).trans hx107_2)
           try (replace hx107_3 := (HB.out.cell (World.block_lt_of_cell? w _ hx107_3)).trans hx107_3)
           try (replace hx107_4 := (HB.out.cell (World.block_lt_of_cell? w _ hx107_4)).trans hx107_4)
           have HR107_1 := Aside0.mk hi107_1
           have HC107_1 := Aside0.mk hl107_1
           clear hi107_1 hl107_1
           have HR107_2 := Aside0.mk hi107_2
           have HC107_2 := Aside0.mk hl107_2
           clear hi107_2 hl107_2
           replace p107 := eq_true p107
           replace q107 := eq_true q107
           try go_wp2_with (first | ((with_reducible refine gate_dst (N := 4) rfl ?_); (try (refine gate_guard (by rfl) ?_; dsimp only)); refine box_event ?hg (N := 4) ?hd (cs := #[.string (⟨#[]⟩ : ByteArray), .slice none 0 0, .slice none 0 0, .string (⟨#[]⟩ : ByteArray), .bool false]) (t := 55) ?hr ?_; (case hd => rfl); (case hg => rfl); (case hr => first | (go_simp; done) | (go_simp; rfl)); intro gb108 hg w70 hbox hb; have BK108 := Aside0.mk (hbox); have GW108 := Aside0.mk ((by rw [hg]; exact (below_size qB) : w.heap.size ≤ gb108)); have GE108 := Aside0.mk ((by rw [hg]; exact (below_size qB) : w.heap.size ≤ gb108)); replace HB := Aside0.mk (below_step qB hb); clear hb hbox hg; have hcz71_0 : w70.cell? ⟨gb108, 0, none⟩ = some (.string (⟨#[]⟩ : ByteArray)) := (blk_cell BK108.out 0).trans rfl; have hcz71_1 : w70.cell? ⟨gb108, 1, none⟩ = some (.slice none 0 0) := (blk_cell BK108.out 1).trans rfl; have hcz71_2 : w70.cell? ⟨gb108, 2, none⟩ = some (.slice none 0 0) := (blk_cell BK108.out 2).trans rfl; have hcz71_3 : w70.cell? ⟨gb108, 3, none⟩ = some (.string (⟨#[]⟩ : ByteArray)) := (blk_cell BK108.out 3).trans rfl; have hcz71_4 : w70.cell? ⟨gb108, 4, none⟩ = some (.bool false) := (blk_cell BK108.out 4).trans rfl; have hfz71_0 := blk_frozen BK108.out 0; have hfz71_1 := blk_frozen BK108.out 1; have hfz71_2 := blk_frozen BK108.out 2; have hfz71_3 := blk_frozen BK108.out 3; have hfz71_4 := blk_frozen BK108.out 4))
           have n0_ : Aside0 ((((((w70.setCell ⟨gb108, 0, none⟩ (.string ((rd_T55 l0 x3_1).f0))).setCell ⟨gb108, 1, none⟩ (.slice A107_1 ((rd_T55 l0 x3_1).f1).length c107_1)).setCell ⟨gb108, 2, none⟩ (.slice A107_2 ((rd_T55 l0 x3_1).f2).length c107_2)).setCell ⟨gb108, 3, none⟩ (.string ((rd_T55 l0 x3_1).f3))).setCell ⟨gb108, 4, none⟩ (.bool ((rd_T55 l0 x3_1).f4))).heap[gb108]? = some (.cells #[.string ((rd_T55 l0 x3_1).f0), .slice A107_1 ((rd_T55 l0 x3_1).f1).length c107_1, .slice A107_2 ((rd_T55 l0 x3_1).f2).length c107_2, .string ((rd_T55 l0 x3_1).f3), .bool ((rd_T55 l0 x3_1).f4)] 55 (0, 0))) := ⟨zc4⟩
           have n1_ : Aside0 (Below w.heap.size w (((((w70.setCell ⟨gb108, 0, none⟩ (.string ((rd_T55 l0 x3_1).f0))).setCell ⟨gb108, 1, none⟩ (.slice A107_1 ((rd_T55 l0 x3_1).f1).length c107_1)).setCell ⟨gb108, 2, none⟩ (.slice A107_2 ((rd_T55 l0 x3_1).f2).length c107_2)).setCell ⟨gb108, 3, none⟩ (.string ((rd_T55 l0 x3_1).f3))).setCell ⟨gb108, 4, none⟩ (.bool ((rd_T55 l0 x3_1).f4)))) := ⟨zc5⟩
           (try clear BK108)
           (try clear HB)
           generalize (((((w70.setCell ⟨gb108, 0, none⟩ (.string ((rd_T55 l0 x3_1).f0))).setCell ⟨gb108, 1, none⟩ (.slice A107_1 ((rd_T55 l0 x3_1).f1).length c107_1)).setCell ⟨gb108, 2, none⟩ (.slice A107_2 ((rd_T55 l0 x3_1).f2).length c107_2)).setCell ⟨gb108, 3, none⟩ (.string ((rd_T55 l0 x3_1).f3))).setCell ⟨gb108, 4, none⟩ (.bool ((rd_T55 l0 x3_1).f4))) = w72 at n0_ n1_ ⊢
           have BK108 := n0_
           have HB := n1_
           clear n0_ n1_
           replace BK108 := Aside0.mk (blk_drew BK108.out)
           replace HB := Aside0.mk (below_drew1 HB.out)
           refine start_ (n := 49) (S := fun w' => w'.cell? ⟨gb108, 0, none⟩ = some (.string ((rd_T55 l0 x3_1).f0)) ∧ w'.cell? ⟨gb108, 1, none⟩ = some (.slice A107_1 ((rd_T55 l0 x3_1).f1).length c107_1) ∧ w'.cell? ⟨gb108, 2, none⟩ = some (.slice A107_2 ((rd_T55 l0 x3_1).f2).length c107_2) ∧ w'.cell? ⟨gb108, 3, none⟩ = some (.string ((rd_T55 l0 x3_1).f3)) ∧ w'.cell? ⟨gb108, 4, none⟩ = some (.bool ((rd_T55 l0 x3_1).f4))) (ds := []) (tf 49 0) (by kernel_rfl) rfl rfl ⟨(blk_cell BK108.out 0).trans rfl, (blk_cell BK108.out 1).trans rfl, (blk_cell BK108.out 2).trans rfl, (blk_cell BK108.out 3).trans rfl, (blk_cell BK108.out 4).trans rfl⟩ (fun hHeld => ?_); refine with_tabW spec_UnitsOk.tab7 spec_UnitsOk.bits7 (fun HT_ HW_ => ?_)
           generalize w72.drew = w73 at BK108 HB hHeld ⊢
           refine qA 0 18 (tf 49 1) ?_
           refine qT 1 19 (tf 49 3) ?_
           refine one_ (i := 2) (N := some 20) (tf 49 7) rfl rfl (one_of HT_.out (by kernel_rfl)) (by decide) (fun K hK => ?_)
           refine goes_ Try.func47 (by kernel_rfl) rfl #[.string ((rd_T55 l0 x3_1).f0)] (by rfl) rfl rfl zc6 ?_
           with_reducible refine (spec_NameOk.calls k1 ((rd_T55 l0 x3_1).f0) true _ A5.out).mono ?_
           rintro e w' ⟨rfl, ⟨nd, rfl⟩⟩
           refine ⟨_, rfl, ?_⟩
           refine hK.out _ _ ⟨(blk_cell BK108.out 0).trans rfl, (blk_cell BK108.out 1).trans rfl, (blk_cell BK108.out 2).trans rfl, (blk_cell BK108.out 3).trans rfl, (blk_cell BK108.out 4).trans rfl⟩ (fun hHeld => ?_)
           clear hK K
           refine norm_ (a' := ?_) ?_ ?_
           rotate_left
           ·show Act.put _ (some 20) _ = _
            simp only [Act.put, sT, s0, sS, i64_w, i32_w]
            rfl
           refine qA 3 21 (tf 49 15) ?_
           refine qA 4 22 (tf 49 31) ?_
           refine qA 5 23 (tf 49 63) ?_
           refine qA 6 24 (tf 49 127) ?_
           refine qA 7 25 (tf 49 255) ?_
           refine qU 8 26 (tf 49 511) ?_
           refine qU 9 27 (tf 49 1023) ?_
           refine qU 10 28 (tf 49 2047) ?_
           refine qU 11 29 (tf 49 4095) ?_
           refine qU 12 30 (tf 49 8191) ?_
           refine qU 13 31 (tf 49 16383) ?_
           refine qU 14 32 (tf 49 32767) ?_
           refine qU 15 33 (tf 49 65535) ?_
           refine qU 16 34 (tf 49 131071) ?_
           refine qA 17 35 (tf 49 262143) ?_
           refine qA 18 36 (tf 49 524287) ?_
           refine qA 19 37 (tf 49 1048575) ?_
           refine qA 20 38 (tf 49 2097151) ?_
           refine qT 21 39 (tf 49 4194303) ?_
           refine one_ (i := 22) (N := some 40) (tf 49 8388607) rfl rfl (one_of HT_.out (by kernel_rfl)) (by decide) (fun K hK => ?_)
           refine goes_ Try.func48 (by kernel_rfl) rfl #[.slice A107_1 ((rd_T55 l0 x3_1).f1).length c107_1] (by rfl) rfl rfl zc6 ?_
           with_reducible refine (spec_l17Ascending.calls k1 _ _ ((rd_T55 l0 x3_1).f1) true _ ?side1 ?side2 A49.out).mono ?_
           (case side1 => exact zc7 HR107_1.out)
           (case side2 => exact HC107_1.out)
           rintro e w' ⟨rfl, ⟨nd, rfl⟩⟩
           refine ⟨_, rfl, ?_⟩
           refine hK.out _ _ ⟨(blk_cell BK108.out 0).trans rfl, (blk_cell BK108.out 1).trans rfl, (blk_cell BK108.out 2).trans rfl, (blk_cell BK108.out 3).trans rfl, (blk_cell BK108.out 4).trans rfl⟩ (fun hHeld => ?_)
           clear hK K
           refine norm_ (a' := ?_) ?_ ?_
           rotate_left
           ·show Act.put _ (some 40) _ = _
            simp only [Act.put, sT, s0, sS, i64_w, i32_w]
            rfl
           refine qA 23 41 (tf 49 16777215) ?_
           refine qA 24 42 (tf 49 33554431) ?_
           refine qA 25 43 (tf 49 67108863) ?_
           refine qA 26 44 (tf 49 134217727) ?_
           refine qT 27 45 (tf 49 268435455) ?_
           refine one_ (i := 28) (N := some 46) (tf 49 536870911) rfl rfl (one_of HT_.out (by kernel_rfl)) (by decide) (fun K hK => ?_)
           refine goes_ Try.func48 (by kernel_rfl) rfl #[.slice A107_2 ((rd_T55 l0 x3_1).f2).length c107_2] (by rfl) rfl rfl zc6 ?_
           with_reducible refine (spec_l17Ascending.calls k1 _ _ ((rd_T55 l0 x3_1).f2) true _ ?side1 ?side2 A51.out).mono ?_
           (case side1 => exact zc7 HR107_2.out)
           (case side2 => exact HC107_2.out)
           rintro e w' ⟨rfl, ⟨nd, rfl⟩⟩
           refine ⟨_, rfl, ?_⟩
           refine hK.out _ _ ⟨(blk_cell BK108.out 0).trans rfl, (blk_cell BK108.out 1).trans rfl, (blk_cell BK108.out 2).trans rfl, (blk_cell BK108.out 3).trans rfl, (blk_cell BK108.out 4).trans rfl⟩ (fun hHeld => ?_)
           clear hK K
           refine norm_ (a' := ?_) ?_ ?_
           rotate_left
           ·show Act.put _ (some 46) _ = _
            simp only [Act.put, sT, s0, sS, i64_w, i32_w]
            rfl
           refine qA 29 47 (tf 49 1073741823) ?_
           refine qA 30 48 (tf 49 2147483647) ?_
           refine qA 31 49 (tf 49 4294967295) ?_
           refine qA 32 50 (tf 49 8589934591) ?_
           refine qT 33 51 (tf 49 17179869183) ?_
           refine one_ (i := 34) (N := some 52) (tf 49 34359738367) rfl rfl (one_of HT_.out (by kernel_rfl)) (by decide) (fun K hK => ?_)
           refine goes_ Try.func49 (by kernel_rfl) rfl #[.slice A107_1 ((rd_T55 l0 x3_1).f1).length c107_1] (by rfl) rfl rfl zc6 ?_
           with_reducible refine (spec_l8Names.calls k1 _ _ ((rd_T55 l0 x3_1).f1) false _ ?side1 ?side2 A53.out).mono ?_
           (case side1 => exact zc7 HR107_1.out)
           (case side2 => exact HC107_1.out)
           rintro e w' ⟨rfl, ⟨nd, rfl⟩⟩
           refine ⟨_, rfl, ?_⟩
           refine hK.out _ _ ⟨(blk_cell BK108.out 0).trans rfl, (blk_cell BK108.out 1).trans rfl, (blk_cell BK108.out 2).trans rfl, (blk_cell BK108.out 3).trans rfl, (blk_cell BK108.out 4).trans rfl⟩ (fun hHeld => ?_)
           clear hK K
           refine norm_ (a' := ?_) ?_ ?_
           rotate_left
           ·show Act.put _ (some 52) _ = _
            simp only [Act.put, sT, s0, sS, i64_w, i32_w]
            rfl
           refine qA 35 53 (tf 49 68719476735) ?_
           refine qA 36 54 (tf 49 137438953471) ?_
           refine qA 37 55 (tf 49 274877906943) ?_
           refine qU 38 56 (tf 49 549755813887) ?_
           refine qU 39 57 (tf 49 1099511627775) ?_
           refine qU 40 58 (tf 49 2199023255551) ?_
           refine qU 41 59 (tf 49 4398046511103) ?_
           refine qA 42 60 (tf 49 8796093022207) ?_
           refine qA 43 61 (tf 49 17592186044415) ?_
           refine qU 44 62 (tf 49 35184372088831) ?_
           refine qU 45 63 (tf 49 70368744177663) ?_
           refine qU 46 64 (tf 49 140737488355327) ?_
           refine qU 47 65 (tf 49 281474976710655) ?_
           refine qA 48 66 (tf 49 562949953421311) ?_
           refine done_ (done_of HT_.out (by kernel_rfl)) ?_
           try go_wp2
           go_ret
           exact ⟨zc0, zc5⟩
         ·replace c52 := Bool.eq_false_iff.mpr c52
          subst c52
          have H1 : (some false) = some r := by rw [if_neg (show ¬ (false = true) by decide)] at H; exact H
          clear H
          have H := H1
          clear H1
          obtain rfl := Option.some.inj H
          have p107 : 0 ≤ (x3_1 : Int) := of_decide_eq_true zc3
          have q107 : x3_1 < (l0.length : Int) := of_decide_eq_true zc3
          obtain ⟨ad107, A107_1, c107_1, A107_2, c107_2, e107, hx107_0, hx107_1, hx107_2, hx107_3, hx107_4, hl107_1, hi107_1, hl107_2, hi107_2⟩ := at_T55 HR0.out x3_1 p107 q107
          cases e107
          try (replace hx107_0 := (HB.out.cell (World.block_lt_of_cell? w _ hx107_0)).trans hx107_0)
          try (replace hx107_1 := (HB.out.cell (World.block_lt_of_cell? w _ hx107_1)).trans hx107_1)
          try (replace hx107_2 := (HB.out.cell (World.block_lt_of_cell? w _ hx107_2)).trans hx107_2)
          try (replace hx107_3 := (HB.out.cell (World.block_lt_of_cell? w _ hx107_3)).trans hx107_3)
          try (replace hx107_4 := (HB.out.cell (World.block_lt_of_cell? w _ hx107_4)).trans hx107_4)
          have HR107_1 := Aside0.mk hi107_1
          have HC107_1 := Aside0.mk hl107_1
          clear hi107_1 hl107_1
          have HR107_2 := Aside0.mk hi107_2
          have HC107_2 := Aside0.mk hl107_2
          clear hi107_2 hl107_2
          replace p107 := eq_true p107
          replace q107 := eq_true q107
          try go_wp2_with (first | ((with_reducible refine gate_dst (N := 4) rfl ?_); (try (refine gate_guard (by rfl) ?_; dsimp only)); refine box_event ?hg (N := 4) ?hd (cs := #[.string (⟨#[]⟩ : ByteArray), .slice none 0 0, .slice none 0 0, .string (⟨#[]⟩ : ByteArray), .bool false]) (t := 55) ?hr ?_; (case hd => rfl); (case hg => rfl); (case hr => first | (go_simp; done) | (go_simp; rfl)); intro gb108 hg w74 hbox hb; have BK108 := Aside0.mk (hbox); have GW108 := Aside0.mk ((by rw [hg]; exact (below_size qB) : w.heap.size ≤ gb108)); have GE108 := Aside0.mk ((by rw [hg]; exact (below_size qB) : w.heap.size ≤ gb108)); replace HB := Aside0.mk (below_step qB hb); clear hb hbox hg; have hcz75_0 : w74.cell? ⟨gb108, 0, none⟩ = some (.string (⟨#[]⟩ : ByteArray)) := (blk_cell BK108.out 0).trans rfl; have hcz75_1 : w74.cell? ⟨gb108, 1, none⟩ = some (.slice none 0 0) := (blk_cell BK108.out 1).trans rfl; have hcz75_2 : w74.cell? ⟨gb108, 2, none⟩ = some (.slice none 0 0) := (blk_cell BK108.out 2).trans rfl; have hcz75_3 : w74.cell? ⟨gb108, 3, none⟩ = some (.string (⟨#[]⟩ : ByteArray)) := (blk_cell BK108.out 3).trans rfl; have hcz75_4 : w74.cell? ⟨gb108, 4, none⟩ = some (.bool false) := (blk_cell BK108.out 4).trans rfl; have hfz75_0 := blk_frozen BK108.out 0; have hfz75_1 := blk_frozen BK108.out 1; have hfz75_2 := blk_frozen BK108.out 2; have hfz75_3 := blk_frozen BK108.out 3; have hfz75_4 := blk_frozen BK108.out 4))
          have n0_ : Aside0 ((((((w74.setCell ⟨gb108, 0, none⟩ (.string ((rd_T55 l0 x3_1).f0))).setCell ⟨gb108, 1, none⟩ (.slice A107_1 ((rd_T55 l0 x3_1).f1).length c107_1)).setCell ⟨gb108, 2, none⟩ (.slice A107_2 ((rd_T55 l0 x3_1).f2).length c107_2)).setCell ⟨gb108, 3, none⟩ (.string ((rd_T55 l0 x3_1).f3))).setCell ⟨gb108, 4, none⟩ (.bool ((rd_T55 l0 x3_1).f4))).heap[gb108]? = some (.cells #[.string ((rd_T55 l0 x3_1).f0), .slice A107_1 ((rd_T55 l0 x3_1).f1).length c107_1, .slice A107_2 ((rd_T55 l0 x3_1).f2).length c107_2, .string ((rd_T55 l0 x3_1).f3), .bool ((rd_T55 l0 x3_1).f4)] 55 (0, 0))) := ⟨zc4⟩
          have n1_ : Aside0 (Below w.heap.size w (((((w74.setCell ⟨gb108, 0, none⟩ (.string ((rd_T55 l0 x3_1).f0))).setCell ⟨gb108, 1, none⟩ (.slice A107_1 ((rd_T55 l0 x3_1).f1).length c107_1)).setCell ⟨gb108, 2, none⟩ (.slice A107_2 ((rd_T55 l0 x3_1).f2).length c107_2)).setCell ⟨gb108, 3, none⟩ (.string ((rd_T55 l0 x3_1).f3))).setCell ⟨gb108, 4, none⟩ (.bool ((rd_T55 l0 x3_1).f4)))) := ⟨zc5⟩
          (try clear BK108)
          (try clear HB)
          generalize (((((w74.setCell ⟨gb108, 0, none⟩ (.string ((rd_T55 l0 x3_1).f0))).setCell ⟨gb108, 1, none⟩ (.slice A107_1 ((rd_T55 l0 x3_1).f1).length c107_1)).setCell ⟨gb108, 2, none⟩ (.slice A107_2 ((rd_T55 l0 x3_1).f2).length c107_2)).setCell ⟨gb108, 3, none⟩ (.string ((rd_T55 l0 x3_1).f3))).setCell ⟨gb108, 4, none⟩ (.bool ((rd_T55 l0 x3_1).f4))) = w76 at n0_ n1_ ⊢
          have BK108 := n0_
          have HB := n1_
          clear n0_ n1_
          replace BK108 := Aside0.mk (blk_drew BK108.out)
          replace HB := Aside0.mk (below_drew1 HB.out)
          refine start_ (n := 49) (S := fun w' => w'.cell? ⟨gb108, 0, none⟩ = some (.string ((rd_T55 l0 x3_1).f0)) ∧ w'.cell? ⟨gb108, 1, none⟩ = some (.slice A107_1 ((rd_T55 l0 x3_1).f1).length c107_1) ∧ w'.cell? ⟨gb108, 2, none⟩ = some (.slice A107_2 ((rd_T55 l0 x3_1).f2).length c107_2) ∧ w'.cell? ⟨gb108, 3, none⟩ = some (.string ((rd_T55 l0 x3_1).f3)) ∧ w'.cell? ⟨gb108, 4, none⟩ = some (.bool ((rd_T55 l0 x3_1).f4))) (ds := []) (tf 49 0) (by kernel_rfl) rfl rfl ⟨(blk_cell BK108.out 0).trans rfl, (blk_cell BK108.out 1).trans rfl, (blk_cell BK108.out 2).trans rfl, (blk_cell BK108.out 3).trans rfl, (blk_cell BK108.out 4).trans rfl⟩ (fun hHeld => ?_); refine with_tabW spec_UnitsOk.tab7 spec_UnitsOk.bits7 (fun HT_ HW_ => ?_)
          generalize w76.drew = w77 at BK108 HB hHeld ⊢
          refine qA 0 18 (tf 49 1) ?_
          refine qT 1 19 (tf 49 3) ?_
          refine one_ (i := 2) (N := some 20) (tf 49 7) rfl rfl (one_of HT_.out (by kernel_rfl)) (by decide) (fun K hK => ?_)
          refine goes_ Try.func47 (by kernel_rfl) rfl #[.string ((rd_T55 l0 x3_1).f0)] (by rfl) rfl rfl zc6 ?_
          with_reducible refine (spec_NameOk.calls k1 ((rd_T55 l0 x3_1).f0) true _ A5.out).mono ?_
          rintro e w' ⟨rfl, ⟨nd, rfl⟩⟩
          refine ⟨_, rfl, ?_⟩
          refine hK.out _ _ ⟨(blk_cell BK108.out 0).trans rfl, (blk_cell BK108.out 1).trans rfl, (blk_cell BK108.out 2).trans rfl, (blk_cell BK108.out 3).trans rfl, (blk_cell BK108.out 4).trans rfl⟩ (fun hHeld => ?_)
          clear hK K
          refine norm_ (a' := ?_) ?_ ?_
          rotate_left
          ·show Act.put _ (some 20) _ = _
           simp only [Act.put, sT, s0, sS, i64_w, i32_w]
           rfl
          refine qA 3 21 (tf 49 15) ?_
          refine qA 4 22 (tf 49 31) ?_
          refine qA 5 23 (tf 49 63) ?_
          refine qA 6 24 (tf 49 127) ?_
          refine qA 7 25 (tf 49 255) ?_
          refine qU 8 26 (tf 49 511) ?_
          refine qU 9 27 (tf 49 1023) ?_
          refine qU 10 28 (tf 49 2047) ?_
          refine qU 11 29 (tf 49 4095) ?_
          refine qU 12 30 (tf 49 8191) ?_
          refine qU 13 31 (tf 49 16383) ?_
          refine qU 14 32 (tf 49 32767) ?_
          refine qU 15 33 (tf 49 65535) ?_
          refine qU 16 34 (tf 49 131071) ?_
          refine qA 17 35 (tf 49 262143) ?_
          refine qA 18 36 (tf 49 524287) ?_
          refine qA 19 37 (tf 49 1048575) ?_
          refine qA 20 38 (tf 49 2097151) ?_
          refine qT 21 39 (tf 49 4194303) ?_
          refine one_ (i := 22) (N := some 40) (tf 49 8388607) rfl rfl (one_of HT_.out (by kernel_rfl)) (by decide) (fun K hK => ?_)
          refine goes_ Try.func48 (by kernel_rfl) rfl #[.slice A107_1 ((rd_T55 l0 x3_1).f1).length c107_1] (by rfl) rfl rfl zc6 ?_
          with_reducible refine (spec_l17Ascending.calls k1 _ _ ((rd_T55 l0 x3_1).f1) true _ ?side1 ?side2 A49.out).mono ?_
          (case side1 => exact zc7 HR107_1.out)
          (case side2 => exact HC107_1.out)
          rintro e w' ⟨rfl, ⟨nd, rfl⟩⟩
          refine ⟨_, rfl, ?_⟩
          refine hK.out _ _ ⟨(blk_cell BK108.out 0).trans rfl, (blk_cell BK108.out 1).trans rfl, (blk_cell BK108.out 2).trans rfl, (blk_cell BK108.out 3).trans rfl, (blk_cell BK108.out 4).trans rfl⟩ (fun hHeld => ?_)
          clear hK K
          refine norm_ (a' := ?_) ?_ ?_
          rotate_left
          ·show Act.put _ (some 40) _ = _
           simp only [Act.put, sT, s0, sS, i64_w, i32_w]
           rfl
          refine qA 23 41 (tf 49 16777215) ?_
          refine qA 24 42 (tf 49 33554431) ?_
          refine qA 25 43 (tf 49 67108863) ?_
          refine qA 26 44 (tf 49 134217727) ?_
          refine qT 27 45 (tf 49 268435455) ?_
          refine one_ (i := 28) (N := some 46) (tf 49 536870911) rfl rfl (one_of HT_.out (by kernel_rfl)) (by decide) (fun K hK => ?_)
          refine goes_ Try.func48 (by kernel_rfl) rfl #[.slice A107_2 ((rd_T55 l0 x3_1).f2).length c107_2] (by rfl) rfl rfl zc6 ?_
          with_reducible refine (spec_l17Ascending.calls k1 _ _ ((rd_T55 l0 x3_1).f2) false _ ?side1 ?side2 A51.out).mono ?_
          (case side1 => exact zc7 HR107_2.out)
          (case side2 => exact HC107_2.out)
          rintro e w' ⟨rfl, ⟨nd, rfl⟩⟩
          refine ⟨_, rfl, ?_⟩
          refine hK.out _ _ ⟨(blk_cell BK108.out 0).trans rfl, (blk_cell BK108.out 1).trans rfl, (blk_cell BK108.out 2).trans rfl, (blk_cell BK108.out 3).trans rfl, (blk_cell BK108.out 4).trans rfl⟩ (fun hHeld => ?_)
          clear hK K
          refine norm_ (a' := ?_) ?_ ?_
          rotate_left
          ·show Act.put _ (some 46) _ = _
           simp only [Act.put, sT, s0, sS, i64_w, i32_w]
           rfl
          refine qA 29 47 (tf 49 1073741823) ?_
          refine qA 30 48 (tf 49 2147483647) ?_
          refine qA 31 49 (tf 49 4294967295) ?_
          refine qU 32 50 (tf 49 8589934591) ?_
          refine qU 33 51 (tf 49 17179869183) ?_
          refine qU 34 52 (tf 49 34359738367) ?_
          refine qU 35 53 (tf 49 68719476735) ?_
          refine qA 36 54 (tf 49 137438953471) ?_
          refine qA 37 55 (tf 49 274877906943) ?_
          refine qU 38 56 (tf 49 549755813887) ?_
          refine qU 39 57 (tf 49 1099511627775) ?_
          refine qU 40 58 (tf 49 2199023255551) ?_
          refine qU 41 59 (tf 49 4398046511103) ?_
          refine qA 42 60 (tf 49 8796093022207) ?_
          refine qA 43 61 (tf 49 17592186044415) ?_
          refine qU 44 62 (tf 49 35184372088831) ?_
          refine qU 45 63 (tf 49 70368744177663) ?_
          refine qU 46 64 (tf 49 140737488355327) ?_
          refine qU 47 65 (tf 49 281474976710655) ?_
          refine qA 48 66 (tf 49 562949953421311) ?_
          refine done_ (done_of HT_.out (by kernel_rfl)) ?_
          try go_wp2
          go_ret
          exact ⟨zc0, zc5⟩
        ·replace c50 := Bool.eq_false_iff.mpr c50
         subst c50
         have H1 : (some false) = some r := by rw [if_neg (show ¬ (false = true) by decide)] at H; exact H
         clear H
         have H := H1
         clear H1
         obtain rfl := Option.some.inj H
         have p107 : 0 ≤ (x3_1 : Int) := of_decide_eq_true zc3
         have q107 : x3_1 < (l0.length : Int) := of_decide_eq_true zc3
         obtain ⟨ad107, A107_1, c107_1, A107_2, c107_2, e107, hx107_0, hx107_1, hx107_2, hx107_3, hx107_4, hl107_1, hi107_1, hl107_2, hi107_2⟩ := at_T55 HR0.out x3_1 p107 q107
         cases e107
         try (replace hx107_0 := (HB.out.cell (World.block_lt_of_cell? w _ hx107_0)).trans hx107_0)
         try (replace hx107_1 := (HB.out.cell (World.block_lt_of_cell? w _ hx107_1)).trans hx107_1)
         try (replace hx107_2 := (HB.out.cell (World.block_lt_of_cell? w _ hx107_2)).trans hx107_2)
         try (replace hx107_3 := (HB.out.cell (World.block_lt_of_cell? w _ hx107_3)).trans hx107_3)
         try (replace hx107_4 := (HB.out.cell (World.block_lt_of_cell? w _ hx107_4)).trans hx107_4)
         have HR107_1 := Aside0.mk hi107_1
         have HC107_1 := Aside0.mk hl107_1
         clear hi107_1 hl107_1
         have HR107_2 := Aside0.mk hi107_2
         have HC107_2 := Aside0.mk hl107_2
         clear hi107_2 hl107_2
         replace p107 := eq_true p107
         replace q107 := eq_true q107
         try go_wp2_with (first | ((with_reducible refine gate_dst (N := 4) rfl ?_); (try (refine gate_guard (by rfl) ?_; dsimp only)); refine box_event ?hg (N := 4) ?hd (cs := #[.string (⟨#[]⟩ : ByteArray), .slice none 0 0, .slice none 0 0, .string (⟨#[]⟩ : ByteArray), .bool false]) (t := 55) ?hr ?_; (case hd => rfl); (case hg => rfl); (case hr => first | (go_simp; done) | (go_simp; rfl)); intro gb108 hg w78 hbox hb; have BK108 := Aside0.mk (hbox); have GW108 := Aside0.mk ((by rw [hg]; exact (below_size qB) : w.heap.size ≤ gb108)); have GE108 := Aside0.mk ((by rw [hg]; exact (below_size qB) : w.heap.size ≤ gb108)); replace HB := Aside0.mk (below_step qB hb); clear hb hbox hg; have hcz79_0 : w78.cell? ⟨gb108, 0, none⟩ = some (.string (⟨#[]⟩ : ByteArray)) := (blk_cell BK108.out 0).trans rfl; have hcz79_1 : w78.cell? ⟨gb108, 1, none⟩ = some (.slice none 0 0) := (blk_cell BK108.out 1).trans rfl; have hcz79_2 : w78.cell? ⟨gb108, 2, none⟩ = some (.slice none 0 0) := (blk_cell BK108.out 2).trans rfl; have hcz79_3 : w78.cell? ⟨gb108, 3, none⟩ = some (.string (⟨#[]⟩ : ByteArray)) := (blk_cell BK108.out 3).trans rfl; have hcz79_4 : w78.cell? ⟨gb108, 4, none⟩ = some (.bool false) := (blk_cell BK108.out 4).trans rfl; have hfz79_0 := blk_frozen BK108.out 0; have hfz79_1 := blk_frozen BK108.out 1; have hfz79_2 := blk_frozen BK108.out 2; have hfz79_3 := blk_frozen BK108.out 3; have hfz79_4 := blk_frozen BK108.out 4))
         have n0_ : Aside0 ((((((w78.setCell ⟨gb108, 0, none⟩ (.string ((rd_T55 l0 x3_1).f0))).setCell ⟨gb108, 1, none⟩ (.slice A107_1 ((rd_T55 l0 x3_1).f1).length c107_1)).setCell ⟨gb108, 2, none⟩ (.slice A107_2 ((rd_T55 l0 x3_1).f2).length c107_2)).setCell ⟨gb108, 3, none⟩ (.string ((rd_T55 l0 x3_1).f3))).setCell ⟨gb108, 4, none⟩ (.bool ((rd_T55 l0 x3_1).f4))).heap[gb108]? = some (.cells #[.string ((rd_T55 l0 x3_1).f0), .slice A107_1 ((rd_T55 l0 x3_1).f1).length c107_1, .slice A107_2 ((rd_T55 l0 x3_1).f2).length c107_2, .string ((rd_T55 l0 x3_1).f3), .bool ((rd_T55 l0 x3_1).f4)] 55 (0, 0))) := ⟨zc4⟩
         have n1_ : Aside0 (Below w.heap.size w (((((w78.setCell ⟨gb108, 0, none⟩ (.string ((rd_T55 l0 x3_1).f0))).setCell ⟨gb108, 1, none⟩ (.slice A107_1 ((rd_T55 l0 x3_1).f1).length c107_1)).setCell ⟨gb108, 2, none⟩ (.slice A107_2 ((rd_T55 l0 x3_1).f2).length c107_2)).setCell ⟨gb108, 3, none⟩ (.string ((rd_T55 l0 x3_1).f3))).setCell ⟨gb108, 4, none⟩ (.bool ((rd_T55 l0 x3_1).f4)))) := ⟨zc5⟩
         (try clear BK108)
         (try clear HB)
         generalize (((((w78.setCell ⟨gb108, 0, none⟩ (.string ((rd_T55 l0 x3_1).f0))).setCell ⟨gb108, 1, none⟩ (.slice A107_1 ((rd_T55 l0 x3_1).f1).length c107_1)).setCell ⟨gb108, 2, none⟩ (.slice A107_2 ((rd_T55 l0 x3_1).f2).length c107_2)).setCell ⟨gb108, 3, none⟩ (.string ((rd_T55 l0 x3_1).f3))).setCell ⟨gb108, 4, none⟩ (.bool ((rd_T55 l0 x3_1).f4))) = w80 at n0_ n1_ ⊢
         have BK108 := n0_
         have HB := n1_
         clear n0_ n1_
         replace BK108 := Aside0.mk (blk_drew BK108.out)
         replace HB := Aside0.mk (below_drew1 HB.out)
         refine start_ (n := 49) (S := fun w' => w'.cell? ⟨gb108, 0, none⟩ = some (.string ((rd_T55 l0 x3_1).f0)) ∧ w'.cell? ⟨gb108, 1, none⟩ = some (.slice A107_1 ((rd_T55 l0 x3_1).f1).length c107_1) ∧ w'.cell? ⟨gb108, 2, none⟩ = some (.slice A107_2 ((rd_T55 l0 x3_1).f2).length c107_2) ∧ w'.cell? ⟨gb108, 3, none⟩ = some (.string ((rd_T55 l0 x3_1).f3)) ∧ w'.cell? ⟨gb108, 4, none⟩ = some (.bool ((rd_T55 l0 x3_1).f4))) (ds := []) (tf 49 0) (by kernel_rfl) rfl rfl ⟨(blk_cell BK108.out 0).trans rfl, (blk_cell BK108.out 1).trans rfl, (blk_cell BK108.out 2).trans rfl, (blk_cell BK108.out 3).trans rfl, (blk_cell BK108.out 4).trans rfl⟩ (fun hHeld => ?_); refine with_tabW spec_UnitsOk.tab7 spec_UnitsOk.bits7 (fun HT_ HW_ => ?_)
         generalize w80.drew = w81 at BK108 HB hHeld ⊢
         refine qA 0 18 (tf 49 1) ?_
         refine qT 1 19 (tf 49 3) ?_
         refine one_ (i := 2) (N := some 20) (tf 49 7) rfl rfl (one_of HT_.out (by kernel_rfl)) (by decide) (fun K hK => ?_)
         refine goes_ Try.func47 (by kernel_rfl) rfl #[.string ((rd_T55 l0 x3_1).f0)] (by rfl) rfl rfl zc6 ?_
         with_reducible refine (spec_NameOk.calls k1 ((rd_T55 l0 x3_1).f0) true _ A5.out).mono ?_
         rintro e w' ⟨rfl, ⟨nd, rfl⟩⟩
         refine ⟨_, rfl, ?_⟩
         refine hK.out _ _ ⟨(blk_cell BK108.out 0).trans rfl, (blk_cell BK108.out 1).trans rfl, (blk_cell BK108.out 2).trans rfl, (blk_cell BK108.out 3).trans rfl, (blk_cell BK108.out 4).trans rfl⟩ (fun hHeld => ?_)
         clear hK K
         refine norm_ (a' := ?_) ?_ ?_
         rotate_left
         ·show Act.put _ (some 20) _ = _
          simp only [Act.put, sT, s0, sS, i64_w, i32_w]
          rfl
         refine qA 3 21 (tf 49 15) ?_
         refine qA 4 22 (tf 49 31) ?_
         refine qA 5 23 (tf 49 63) ?_
         refine qA 6 24 (tf 49 127) ?_
         refine qA 7 25 (tf 49 255) ?_
         refine qU 8 26 (tf 49 511) ?_
         refine qU 9 27 (tf 49 1023) ?_
         refine qU 10 28 (tf 49 2047) ?_
         refine qU 11 29 (tf 49 4095) ?_
         refine qU 12 30 (tf 49 8191) ?_
         refine qU 13 31 (tf 49 16383) ?_
         refine qU 14 32 (tf 49 32767) ?_
         refine qU 15 33 (tf 49 65535) ?_
         refine qU 16 34 (tf 49 131071) ?_
         refine qA 17 35 (tf 49 262143) ?_
         refine qA 18 36 (tf 49 524287) ?_
         refine qA 19 37 (tf 49 1048575) ?_
         refine qA 20 38 (tf 49 2097151) ?_
         refine qT 21 39 (tf 49 4194303) ?_
         refine one_ (i := 22) (N := some 40) (tf 49 8388607) rfl rfl (one_of HT_.out (by kernel_rfl)) (by decide) (fun K hK => ?_)
         refine goes_ Try.func48 (by kernel_rfl) rfl #[.slice A107_1 ((rd_T55 l0 x3_1).f1).length c107_1] (by rfl) rfl rfl zc6 ?_
         with_reducible refine (spec_l17Ascending.calls k1 _ _ ((rd_T55 l0 x3_1).f1) false _ ?side1 ?side2 A49.out).mono ?_
         (case side1 => exact zc7 HR107_1.out)
         (case side2 => exact HC107_1.out)
         rintro e w' ⟨rfl, ⟨nd, rfl⟩⟩
         refine ⟨_, rfl, ?_⟩
         refine hK.out _ _ ⟨(blk_cell BK108.out 0).trans rfl, (blk_cell BK108.out 1).trans rfl, (blk_cell BK108.out 2).trans rfl, (blk_cell BK108.out 3).trans rfl, (blk_cell BK108.out 4).trans rfl⟩ (fun hHeld => ?_)
         clear hK K
         refine norm_ (a' := ?_) ?_ ?_
         rotate_left
         ·show Act.put _ (some 40) _ = _
          simp only [Act.put, sT, s0, sS, i64_w, i32_w]
          rfl
         refine qA 23 41 (tf 49 16777215) ?_
         refine qA 24 42 (tf 49 33554431) ?_
         refine qA 25 43 (tf 49 67108863) ?_
         refine qU 26 44 (tf 49 134217727) ?_
         refine qU 27 45 (tf 49 268435455) ?_
         refine qU 28 46 (tf 49 536870911) ?_
         refine qU 29 47 (tf 49 1073741823) ?_
         refine qA 30 48 (tf 49 2147483647) ?_
         refine qA 31 49 (tf 49 4294967295) ?_
         refine qU 32 50 (tf 49 8589934591) ?_
         refine qU 33 51 (tf 49 17179869183) ?_
         refine qU 34 52 (tf 49 34359738367) ?_
         refine qU 35 53 (tf 49 68719476735) ?_
         refine qA 36 54 (tf 49 137438953471) ?_
         refine qA 37 55 (tf 49 274877906943) ?_
         refine qU 38 56 (tf 49 549755813887) ?_
         refine qU 39 57 (tf 49 1099511627775) ?_
         refine qU 40 58 (tf 49 2199023255551) ?_
         refine qU 41 59 (tf 49 4398046511103) ?_
         refine qA 42 60 (tf 49 8796093022207) ?_
         refine qA 43 61 (tf 49 17592186044415) ?_
         refine qU 44 62 (tf 49 35184372088831) ?_
         refine qU 45 63 (tf 49 70368744177663) ?_
         refine qU 46 64 (tf 49 140737488355327) ?_
         refine qU 47 65 (tf 49 281474976710655) ?_
         refine qA 48 66 (tf 49 562949953421311) ?_
         refine done_ (done_of HT_.out (by kernel_rfl)) ?_
         try go_wp2
         go_ret
         exact ⟨zc0, zc5⟩
      ·replace c6 := Bool.eq_false_iff.mpr c6
       subst c6
       have H1 : (some false) = some r := by rw [if_neg (show ¬ (false = true) by decide)] at H; exact H
       clear H
       have H := H1
       clear H1
       obtain rfl := Option.some.inj H
       have p107 : 0 ≤ (x3_1 : Int) := of_decide_eq_true zc3
       have q107 : x3_1 < (l0.length : Int) := of_decide_eq_true zc3
       obtain ⟨ad107, A107_1, c107_1, A107_2, c107_2, e107, hx107_0, hx107_1, hx107_2, hx107_3, hx107_4, hl107_1, hi107_1, hl107_2, hi107_2⟩ := at_T55 HR0.out x3_1 p107 q107
       cases e107
       try (replace hx107_0 := (HB.out.cell (World.block_lt_of_cell? w _ hx107_0)).trans hx107_0)
       try (replace hx107_1 := (HB.out.cell (World.block_lt_of_cell? w _ hx107_1)).trans hx107_1)
       try (replace hx107_2 := (HB.out.cell (World.block_lt_of_cell? w _ hx107_2)).trans hx107_2)
       try (replace hx107_3 := (HB.out.cell (World.block_lt_of_cell? w _ hx107_3)).trans hx107_3)
       try (replace hx107_4 := (HB.out.cell (World.block_lt_of_cell? w _ hx107_4)).trans hx107_4)
       have HR107_1 := Aside0.mk hi107_1
       have HC107_1 := Aside0.mk hl107_1
       clear hi107_1 hl107_1
       have HR107_2 := Aside0.mk hi107_2
       have HC107_2 := Aside0.mk hl107_2
       clear hi107_2 hl107_2
       replace p107 := eq_true p107
       replace q107 := eq_true q107
       try go_wp2_with (first | ((with_reducible refine gate_dst (N := 4) rfl ?_); (try (refine gate_guard (by rfl) ?_; dsimp only)); refine box_event ?hg (N := 4) ?hd (cs := #[.string (⟨#[]⟩ : ByteArray), .slice none 0 0, .slice none 0 0, .string (⟨#[]⟩ : ByteArray), .bool false]) (t := 55) ?hr ?_; (case hd => rfl); (case hg => rfl); (case hr => first | (go_simp; done) | (go_simp; rfl)); intro gb108 hg w82 hbox hb; have BK108 := Aside0.mk (hbox); have GW108 := Aside0.mk ((by rw [hg]; exact (below_size qB) : w.heap.size ≤ gb108)); have GE108 := Aside0.mk ((by rw [hg]; exact (below_size qB) : w.heap.size ≤ gb108)); replace HB := Aside0.mk (below_step qB hb); clear hb hbox hg; have hcz83_0 : w82.cell? ⟨gb108, 0, none⟩ = some (.string (⟨#[]⟩ : ByteArray)) := (blk_cell BK108.out 0).trans rfl; have hcz83_1 : w82.cell? ⟨gb108, 1, none⟩ = some (.slice none 0 0) := (blk_cell BK108.out 1).trans rfl; have hcz83_2 : w82.cell? ⟨gb108, 2, none⟩ = some (.slice none 0 0) := (blk_cell BK108.out 2).trans rfl; have hcz83_3 : w82.cell? ⟨gb108, 3, none⟩ = some (.string (⟨#[]⟩ : ByteArray)) := (blk_cell BK108.out 3).trans rfl; have hcz83_4 : w82.cell? ⟨gb108, 4, none⟩ = some (.bool false) := (blk_cell BK108.out 4).trans rfl; have hfz83_0 := blk_frozen BK108.out 0; have hfz83_1 := blk_frozen BK108.out 1; have hfz83_2 := blk_frozen BK108.out 2; have hfz83_3 := blk_frozen BK108.out 3; have hfz83_4 := blk_frozen BK108.out 4))
       have n0_ : Aside0 ((((((w82.setCell ⟨gb108, 0, none⟩ (.string ((rd_T55 l0 x3_1).f0))).setCell ⟨gb108, 1, none⟩ (.slice A107_1 ((rd_T55 l0 x3_1).f1).length c107_1)).setCell ⟨gb108, 2, none⟩ (.slice A107_2 ((rd_T55 l0 x3_1).f2).length c107_2)).setCell ⟨gb108, 3, none⟩ (.string ((rd_T55 l0 x3_1).f3))).setCell ⟨gb108, 4, none⟩ (.bool ((rd_T55 l0 x3_1).f4))).heap[gb108]? = some (.cells #[.string ((rd_T55 l0 x3_1).f0), .slice A107_1 ((rd_T55 l0 x3_1).f1).length c107_1, .slice A107_2 ((rd_T55 l0 x3_1).f2).length c107_2, .string ((rd_T55 l0 x3_1).f3), .bool ((rd_T55 l0 x3_1).f4)] 55 (0, 0))) := ⟨zc4⟩
       have n1_ : Aside0 (Below w.heap.size w (((((w82.setCell ⟨gb108, 0, none⟩ (.string ((rd_T55 l0 x3_1).f0))).setCell ⟨gb108, 1, none⟩ (.slice A107_1 ((rd_T55 l0 x3_1).f1).length c107_1)).setCell ⟨gb108, 2, none⟩ (.slice A107_2 ((rd_T55 l0 x3_1).f2).length c107_2)).setCell ⟨gb108, 3, none⟩ (.string ((rd_T55 l0 x3_1).f3))).setCell ⟨gb108, 4, none⟩ (.bool ((rd_T55 l0 x3_1).f4)))) := ⟨zc5⟩
       (try clear BK108)
       (try clear HB)
       generalize (((((w82.setCell ⟨gb108, 0, none⟩ (.string ((rd_T55 l0 x3_1).f0))).setCell ⟨gb108, 1, none⟩ (.slice A107_1 ((rd_T55 l0 x3_1).f1).length c107_1)).setCell ⟨gb108, 2, none⟩ (.slice A107_2 ((rd_T55 l0 x3_1).f2).length c107_2)).setCell ⟨gb108, 3, none⟩ (.string ((rd_T55 l0 x3_1).f3))).setCell ⟨gb108, 4, none⟩ (.bool ((rd_T55 l0 x3_1).f4))) = w84 at n0_ n1_ ⊢
       have BK108 := n0_
       have HB := n1_
       clear n0_ n1_
       replace BK108 := Aside0.mk (blk_drew BK108.out)
       replace HB := Aside0.mk (below_drew1 HB.out)
       refine start_ (n := 49) (S := fun w' => w'.cell? ⟨gb108, 0, none⟩ = some (.string ((rd_T55 l0 x3_1).f0)) ∧ w'.cell? ⟨gb108, 1, none⟩ = some (.slice A107_1 ((rd_T55 l0 x3_1).f1).length c107_1) ∧ w'.cell? ⟨gb108, 2, none⟩ = some (.slice A107_2 ((rd_T55 l0 x3_1).f2).length c107_2) ∧ w'.cell? ⟨gb108, 3, none⟩ = some (.string ((rd_T55 l0 x3_1).f3)) ∧ w'.cell? ⟨gb108, 4, none⟩ = some (.bool ((rd_T55 l0 x3_1).f4))) (ds := []) (tf 49 0) (by kernel_rfl) rfl rfl ⟨(blk_cell BK108.out 0).trans rfl, (blk_cell BK108.out 1).trans rfl, (blk_cell BK108.out 2).trans rfl, (blk_cell BK108.out 3).trans rfl, (blk_cell BK108.out 4).trans rfl⟩ (fun hHeld => ?_); refine with_tabW spec_UnitsOk.tab7 spec_UnitsOk.bits7 (fun HT_ HW_ => ?_)
       generalize w84.drew = w85 at BK108 HB hHeld ⊢
       refine qA 0 18 (tf 49 1) ?_
       refine qT 1 19 (tf 49 3) ?_
       refine one_ (i := 2) (N := some 20) (tf 49 7) rfl rfl (one_of HT_.out (by kernel_rfl)) (by decide) (fun K hK => ?_)
       refine goes_ Try.func47 (by kernel_rfl) rfl #[.string ((rd_T55 l0 x3_1).f0)] (by rfl) rfl rfl zc6 ?_
       with_reducible refine (spec_NameOk.calls k1 ((rd_T55 l0 x3_1).f0) false _ A5.out).mono ?_
       rintro e w' ⟨rfl, ⟨nd, rfl⟩⟩
       refine ⟨_, rfl, ?_⟩
       refine hK.out _ _ ⟨(blk_cell BK108.out 0).trans rfl, (blk_cell BK108.out 1).trans rfl, (blk_cell BK108.out 2).trans rfl, (blk_cell BK108.out 3).trans rfl, (blk_cell BK108.out 4).trans rfl⟩ (fun hHeld => ?_)
       clear hK K
       refine norm_ (a' := ?_) ?_ ?_
       rotate_left
       ·show Act.put _ (some 20) _ = _
        simp only [Act.put, sT, s0, sS, i64_w, i32_w]
        rfl
       refine qA 3 21 (tf 49 15) ?_
       refine qA 4 22 (tf 49 31) ?_
       refine qU 5 23 (tf 49 63) ?_
       refine qU 6 24 (tf 49 127) ?_
       refine qU 7 25 (tf 49 255) ?_
       refine qU 8 26 (tf 49 511) ?_
       refine qU 9 27 (tf 49 1023) ?_
       refine qU 10 28 (tf 49 2047) ?_
       refine qU 11 29 (tf 49 4095) ?_
       refine qU 12 30 (tf 49 8191) ?_
       refine qU 13 31 (tf 49 16383) ?_
       refine qU 14 32 (tf 49 32767) ?_
       refine qU 15 33 (tf 49 65535) ?_
       refine qU 16 34 (tf 49 131071) ?_
       refine qU 17 35 (tf 49 262143) ?_
       refine qA 18 36 (tf 49 524287) ?_
       refine qA 19 37 (tf 49 1048575) ?_
       refine qU 20 38 (tf 49 2097151) ?_
       refine qU 21 39 (tf 49 4194303) ?_
       refine qU 22 40 (tf 49 8388607) ?_
       refine qU 23 41 (tf 49 16777215) ?_
       refine qA 24 42 (tf 49 33554431) ?_
       refine qA 25 43 (tf 49 67108863) ?_
       refine qU 26 44 (tf 49 134217727) ?_
       refine qU 27 45 (tf 49 268435455) ?_
       refine qU 28 46 (tf 49 536870911) ?_
       refine qU 29 47 (tf 49 1073741823) ?_
       refine qA 30 48 (tf 49 2147483647) ?_
       refine qA 31 49 (tf 49 4294967295) ?_
       refine qU 32 50 (tf 49 8589934591) ?_
       refine qU 33 51 (tf 49 17179869183) ?_
       refine qU 34 52 (tf 49 34359738367) ?_
       refine qU 35 53 (tf 49 68719476735) ?_
       refine qA 36 54 (tf 49 137438953471) ?_
       refine qA 37 55 (tf 49 274877906943) ?_
       refine qU 38 56 (tf 49 549755813887) ?_
       refine qU 39 57 (tf 49 1099511627775) ?_
       refine qU 40 58 (tf 49 2199023255551) ?_
       refine qU 41 59 (tf 49 4398046511103) ?_
       refine qA 42 60 (tf 49 8796093022207) ?_
       refine qA 43 61 (tf 49 17592186044415) ?_
       refine qU 44 62 (tf 49 35184372088831) ?_
       refine qU 45 63 (tf 49 70368744177663) ?_
       refine qU 46 64 (tf 49 140737488355327) ?_
       refine qU 47 65 (tf 49 281474976710655) ?_
       refine qA 48 66 (tf 49 562949953421311) ?_
       refine done_ (done_of HT_.out (by kernel_rfl)) ?_
       try go_wp2
       go_ret
       exact ⟨zc0, zc5⟩
     ·rw [if_neg c4] at H
      exact absurd H (by simp)
    ·rw [if_neg c3] at H
     have c3b0 : decide (x3_1 < (l0.length : Int)) = false := decide_eq_false c3
     clear c3
     obtain rfl := Option.some.inj H
     go_wp2
     go_ret
     exact ⟨zc0, zc1⟩

end Go.Proofs.Ytnahkojlamficaa.PFnFailing
