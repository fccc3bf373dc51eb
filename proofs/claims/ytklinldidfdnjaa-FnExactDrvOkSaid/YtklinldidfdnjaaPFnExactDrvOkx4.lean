-- Laid by a program of this session: a turned copy of the kit's print, with contracts by hand beside.
import Derived.Test.YtklinldidfdnjaaPFnExactDrvOkx0
import Derived.Test.YtklinldidfdnjaaPFnExactDrvOkx1
import Derived.Test.YtklinldidfdnjaaPFnExactDrvOkx2
import Derived.Test.YtklinldidfdnjaaPFnExactDrvOkx3
namespace Go.Proofs.Ytklinldidfdnjaa.PFnExactDrvOk
open Go.RowKit Go.Proofs.YtklinldidfdnjaaW.PrintWords Go.Proofs.YtklinldidfdnjaaW.PrintLast Go.Proofs.YtklinldidfdnjaaW.PrintMore
attribute [local go_sem] max2_int min2_int max_two min_two max_three min_three max_four min_four   -- for this text's walks alone
set_option linter.unusedVariables false
set_option linter.unusedSimpArgs false

/-! ### spec_DrvOk: function 26 -/
def spec_DrvOk.j0 : Nat → Bool → ByteArray → ByteArray → List ByteArray → ByteArray → List (S73) → List (S75) → List ByteArray → Option (Bool)
 | 0, _, _, _, _, _, _, _, _ => none
 | k + 1, x44, x145000, x145001, x145002, x145003, x145004, x145005, x145006 => if x44 = true then (some false) else (if x145003.toList = ([] : List UInt8) then ((spec_l5Usual.f k x145000 x145001 x145002 x145003 x145004 x145005 x145006).bind fun t147 => (some t147)) else ((spec_ReadWord32.f k x145003).bind fun bt148 => (if bt148.2 = true then (if (x145002.length : Int) = 1 then (if 0 < (x145002.length : Int) then (if (rdOf ByteArray.empty x145002 0).toList = ([111, 117, 116] : List UInt8) then ((spec_l5Usual.f k x145000 x145001 x145002 x145003 x145004 x145005 x145006).bind fun t151 => (some t151)) else (some false)) else (none)) else (some false)) else (some false))))
def spec_DrvOk.f (k : Nat) (a0_0 : ByteArray) (a0_1 : ByteArray) (l0_2 : List ByteArray) (a0_3 : ByteArray) (l0_4 : List (S73)) (l0_5 : List (S75)) (l0_6 : List ByteArray) : Option (Bool) := (spec_NameOk.f k a0_0).bind fun t145 => (if t145 = true then ((spec_l5TextOk.f k a0_1).bind fun t146 => (if t146 = true then (if (l0_2.length : Int) < 1 then (spec_DrvOk.j0 k true a0_0 a0_1 l0_2 a0_3 l0_4 l0_5 l0_6) else (if (l0_2.length : Int) > 5 then (spec_DrvOk.j0 k true a0_0 a0_1 l0_2 a0_3 l0_4 l0_5 l0_6) else (if (l0_4.length : Int) > 2000 then (spec_DrvOk.j0 k true a0_0 a0_1 l0_2 a0_3 l0_4 l0_5 l0_6) else (if (l0_5.length : Int) > 2000 then (spec_DrvOk.j0 k true a0_0 a0_1 l0_2 a0_3 l0_4 l0_5 l0_6) else (spec_DrvOk.j0 k (decide ((l0_6.length : Int) > 2000)) a0_0 a0_1 l0_2 a0_3 l0_4 l0_5 l0_6))))) else (spec_DrvOk.j0 k true a0_0 a0_1 l0_2 a0_3 l0_4 l0_5 l0_6))) else (spec_DrvOk.j0 k true a0_0 a0_1 l0_2 a0_3 l0_4 l0_5 l0_6))
theorem spec_DrvOk.mono_l : ∀ k, (∀ y0 y1 y2 y3 y4 y5 y6 y7, LeO (spec_DrvOk.j0 k y0 y1 y2 y3 y4 y5 y6 y7) (spec_DrvOk.j0 (k + 1) y0 y1 y2 y3 y4 y5 y6 y7))
 | 0 => fun _ _ _ _ _ _ _ _ r h => by simp [spec_DrvOk.j0] at h
 | k + 1 => by
  have ih0 := spec_DrvOk.mono_l k
  ·intro y0 y1 y2 y3 y4 y5 y6 y7
   unfold spec_DrvOk.j0
   repeat' first
   | (with_reducible exact ih0 _ _ _ _ _ _ _ _)
   | (with_reducible exact spec_NameOk.mono _ _)
   | (with_reducible exact spec_ReadWord32.mono _ _)
   | (with_reducible exact spec_l5TextOk.mono _ _)
   | (with_reducible exact spec_l5Usual.mono _ _ _ _ _ _ _ _)
   | (with_reducible exact LeO.refl _)
   | (with_reducible exact LeO.none _)
   | (with_reducible refine LeO.ite ?_ ?_)
   | (with_reducible refine LeO.bind ?_ (fun _ => ?_))
   | exact ih0 _ _ _ _ _ _ _ _
   | exact spec_NameOk.mono _ _
   | exact spec_ReadWord32.mono _ _
   | exact spec_l5TextOk.mono _ _
   | exact spec_l5Usual.mono _ _ _ _ _ _ _ _
   | exact LeO.none _
   | refine LeO.ite ?_ ?_
   | refine LeO.bind ?_ (fun _ => ?_)
theorem spec_DrvOk.mono : ∀ a0 a1 a2 a3 a4 a5 a6 k, LeO (spec_DrvOk.f k a0 a1 a2 a3 a4 a5 a6) (spec_DrvOk.f (k + 1) a0 a1 a2 a3 a4 a5 a6) := by
 intro a0 a1 a2 a3 a4 a5 a6 k
 have ih0 := spec_DrvOk.mono_l k
 unfold spec_DrvOk.f
 repeat' first
   | (with_reducible exact ih0 _ _ _ _ _ _ _ _)
   | (with_reducible exact spec_NameOk.mono _ _)
   | (with_reducible exact spec_ReadWord32.mono _ _)
   | (with_reducible exact spec_l5TextOk.mono _ _)
   | (with_reducible exact spec_l5Usual.mono _ _ _ _ _ _ _ _)
   | (with_reducible exact LeO.refl _)
   | (with_reducible exact LeO.none _)
   | (with_reducible refine LeO.ite ?_ ?_)
   | (with_reducible refine LeO.bind ?_ (fun _ => ?_))
   | exact ih0 _ _ _ _ _ _ _ _
   | exact spec_NameOk.mono _ _
   | exact spec_ReadWord32.mono _ _
   | exact spec_l5TextOk.mono _ _
   | exact spec_l5Usual.mono _ _ _ _ _ _ _ _
   | exact LeO.none _
   | refine LeO.ite ?_ ?_
   | refine LeO.bind ?_ (fun _ => ?_)
set_option maxHeartbeats 8000000 in
set_option maxRecDepth 100000 in
theorem spec_DrvOk.calls (k : Nat) (a0_0 : ByteArray) (a0_1 : ByteArray) (A0_2 : Option Addr) (c0_2 : Nat) (l0_2 : List ByteArray) (a0_3 : ByteArray) (A0_4 : Option Addr) (c0_4 : Nat) (l0_4 : List (S73)) (A0_5 : Option Addr) (c0_5 : Nat) (l0_5 : List (S75)) (A0_6 : Option Addr) (c0_6 : Nat) (l0_6 : List ByteArray) (r : Bool) (w : World) (hr0_2 : Kd.C Kd.string w A0_2 l0_2.length l0_2) (hc0_2 : l0_2.length ≤ c0_2) (hr0_4 : Kd.C k73 w A0_4 l0_4.length l0_4) (hc0_4 : l0_4.length ≤ c0_4) (hr0_5 : Kd.C k75 w A0_5 l0_5.length l0_5) (hc0_5 : l0_5.length ≤ c0_5) (hr0_6 : Kd.C Kd.string w A0_6 l0_6.length l0_6) (hc0_6 : l0_6.length ≤ c0_6) (h : spec_DrvOk.f k a0_0 a0_1 l0_2 a0_3 l0_4 l0_5 l0_6 = some r) :
  Calls Try.prog 26 #[.agg #[.string a0_0, .string a0_1, .slice A0_2 l0_2.length c0_2, .string a0_3, .slice A0_4 l0_4.length c0_4, .slice A0_5 l0_5.length c0_5, .slice A0_6 l0_6.length c0_6]] w fun e w' => e = .returned (.bool r) ∧ Below w.heap.size w w' := by
 have hu48 := Try.underlying48
 have HR0_2 := Aside0.mk hr0_2
 have HC0_2 := Aside0.mk hc0_2
 clear hr0_2 hc0_2
 have HR0_4 := Aside0.mk hr0_4
 have HC0_4 := Aside0.mk hc0_4
 clear hr0_4 hc0_4
 have HR0_5 := Aside0.mk hr0_5
 have HC0_5 := Aside0.mk hc0_5
 clear hr0_5 hc0_5
 have HR0_6 := Aside0.mk hr0_6
 have HC0_6 := Aside0.mk hc0_6
 clear hr0_6 hc0_6
 have HB := Aside0.mk (Below.refl w.heap.size w)
 have H : ((spec_NameOk.f k a0_0).bind fun t145 => (if t145 = true then ((spec_l5TextOk.f k a0_1).bind fun t146 => (if t146 = true then (if (l0_2.length : Int) < 1 then (spec_DrvOk.j0 k true a0_0 a0_1 l0_2 a0_3 l0_4 l0_5 l0_6) else (if (l0_2.length : Int) > 5 then (spec_DrvOk.j0 k true a0_0 a0_1 l0_2 a0_3 l0_4 l0_5 l0_6) else (if (l0_4.length : Int) > 2000 then (spec_DrvOk.j0 k true a0_0 a0_1 l0_2 a0_3 l0_4 l0_5 l0_6) else (if (l0_5.length : Int) > 2000 then (spec_DrvOk.j0 k true a0_0 a0_1 l0_2 a0_3 l0_4 l0_5 l0_6) else (spec_DrvOk.j0 k (decide ((l0_6.length : Int) > 2000)) a0_0 a0_1 l0_2 a0_3 l0_4 l0_5 l0_6))))) else (spec_DrvOk.j0 k true a0_0 a0_1 l0_2 a0_3 l0_4 l0_5 l0_6))) else (spec_DrvOk.j0 k true a0_0 a0_1 l0_2 a0_3 l0_4 l0_5 l0_6))) = some r := h
 clear h
 have HC2 := Aside0.mk H
 clear H
 go_enter Try.func26, Try.ntmps26
 go_upto_region 1 with (first | ((with_reducible refine gate_dst (N := 1) rfl ?_); (try (refine gate_guard (by rfl) ?_; dsimp only)); refine box_event ?hg (N := 1) ?hd (cs := #[.string a0_0, .string a0_1, .slice A0_2 l0_2.length c0_2, .string a0_3, .slice A0_4 l0_4.length c0_4, .slice A0_5 l0_5.length c0_5, .slice A0_6 l0_6.length c0_6]) (t := 48) ?hr ?_; (case hd => rfl); (case hg => rfl); (case hr => first | (go_simp; done) | (go_simp; rfl)); intro gb144 hg w3 hbox hb; have n0_ := Aside0.mk (below_step qB hb); have n1_ := Aside0.mk (hbox); have n2_ := Aside0.mk ((by rw [hg]; exact (below_size qB) : w.heap.size ≤ gb144)); have n3_ := Aside0.mk ((by rw [hg]; exact (below_size qB) : w.heap.size ≤ gb144)); clear HB; have HB := n0_; have BK144 := n1_; have GW144 := n2_; have GE144 := n3_; clear n0_ n1_ n2_ n3_; clear hb hbox hg))
 (try simp only [Act.put, List.setIfInBounds_toArray, List.set_cons_zero, List.set_cons_succ])
 go_cut [44] (fun v44 wc => ∃ (kq : Nat) (x44_1 : Bool), v44 = .bool x44_1 ∧ Aside0 (spec_DrvOk.j0 kq x44_1 a0_0 a0_1 l0_2 a0_3 l0_4 l0_5 l0_6 = some r) ∧ Aside0 (kq ≤ k) ∧ Aside0 (wc.heap[gb144]? = some (.cells #[.string a0_0, .string a0_1, (.slice A0_2 l0_2.length c0_2), .string a0_3, (.slice A0_4 l0_4.length c0_4), (.slice A0_5 l0_5.length c0_5), (.slice A0_6 l0_6.length c0_6)] 48 (0, 0))) ∧ Aside0 (Below w.heap.size w wc))
 case first =>
  have H := HC2.out
  clear HC2
  replace H := Option.bind_eq_some_iff.mp H
  obtain ⟨t145, A40, H⟩ := H
  replace H : (if t145 = true then ((spec_l5TextOk.f k a0_1).bind fun t146 => (if t146 = true then (if (l0_2.length : Int) < 1 then (spec_DrvOk.j0 k true a0_0 a0_1 l0_2 a0_3 l0_4 l0_5 l0_6) else (if (l0_2.length : Int) > 5 then (spec_DrvOk.j0 k true a0_0 a0_1 l0_2 a0_3 l0_4 l0_5 l0_6) else (if (l0_4.length : Int) > 2000 then (spec_DrvOk.j0 k true a0_0 a0_1 l0_2 a0_3 l0_4 l0_5 l0_6) else (if (l0_5.length : Int) > 2000 then (spec_DrvOk.j0 k true a0_0 a0_1 l0_2 a0_3 l0_4 l0_5 l0_6) else (spec_DrvOk.j0 k (decide ((l0_6.length : Int) > 2000)) a0_0 a0_1 l0_2 a0_3 l0_4 l0_5 l0_6))))) else (spec_DrvOk.j0 k true a0_0 a0_1 l0_2 a0_3 l0_4 l0_5 l0_6))) else (spec_DrvOk.j0 k true a0_0 a0_1 l0_2 a0_3 l0_4 l0_5 l0_6)) = some r := H
  have A4 := Aside0.mk A40
  clear A40
  by_cases c5 : t145 = true
  ·subst c5
   have H1 : ((spec_l5TextOk.f k a0_1).bind fun t146 => (if t146 = true then (if (l0_2.length : Int) < 1 then (spec_DrvOk.j0 k true a0_0 a0_1 l0_2 a0_3 l0_4 l0_5 l0_6) else (if (l0_2.length : Int) > 5 then (spec_DrvOk.j0 k true a0_0 a0_1 l0_2 a0_3 l0_4 l0_5 l0_6) else (if (l0_4.length : Int) > 2000 then (spec_DrvOk.j0 k true a0_0 a0_1 l0_2 a0_3 l0_4 l0_5 l0_6) else (if (l0_5.length : Int) > 2000 then (spec_DrvOk.j0 k true a0_0 a0_1 l0_2 a0_3 l0_4 l0_5 l0_6) else (spec_DrvOk.j0 k (decide ((l0_6.length : Int) > 2000)) a0_0 a0_1 l0_2 a0_3 l0_4 l0_5 l0_6))))) else (spec_DrvOk.j0 k true a0_0 a0_1 l0_2 a0_3 l0_4 l0_5 l0_6))) = some r := by rw [if_pos rfl] at H; exact H
   clear H
   have H := H1
   clear H1
   replace H := Option.bind_eq_some_iff.mp H
   obtain ⟨t146, A60, H⟩ := H
   replace H : (if t146 = true then (if (l0_2.length : Int) < 1 then (spec_DrvOk.j0 k true a0_0 a0_1 l0_2 a0_3 l0_4 l0_5 l0_6) else (if (l0_2.length : Int) > 5 then (spec_DrvOk.j0 k true a0_0 a0_1 l0_2 a0_3 l0_4 l0_5 l0_6) else (if (l0_4.length : Int) > 2000 then (spec_DrvOk.j0 k true a0_0 a0_1 l0_2 a0_3 l0_4 l0_5 l0_6) else (if (l0_5.length : Int) > 2000 then (spec_DrvOk.j0 k true a0_0 a0_1 l0_2 a0_3 l0_4 l0_5 l0_6) else (spec_DrvOk.j0 k (decide ((l0_6.length : Int) > 2000)) a0_0 a0_1 l0_2 a0_3 l0_4 l0_5 l0_6))))) else (spec_DrvOk.j0 k true a0_0 a0_1 l0_2 a0_3 l0_4 l0_5 l0_6)) = some r := H
   have A6 := Aside0.mk A60
   clear A60
   by_cases c7 : t146 = true
   ·subst c7
    have H1 : (if (l0_2.length : Int) < 1 then (spec_DrvOk.j0 k true a0_0 a0_1 l0_2 a0_3 l0_4 l0_5 l0_6) else (if (l0_2.length : Int) > 5 then (spec_DrvOk.j0 k true a0_0 a0_1 l0_2 a0_3 l0_4 l0_5 l0_6) else (if (l0_4.length : Int) > 2000 then (spec_DrvOk.j0 k true a0_0 a0_1 l0_2 a0_3 l0_4 l0_5 l0_6) else (if (l0_5.length : Int) > 2000 then (spec_DrvOk.j0 k true a0_0 a0_1 l0_2 a0_3 l0_4 l0_5 l0_6) else (spec_DrvOk.j0 k (decide ((l0_6.length : Int) > 2000)) a0_0 a0_1 l0_2 a0_3 l0_4 l0_5 l0_6))))) = some r := by rw [if_pos rfl] at H; exact H
    clear H
    have H := H1
    clear H1
    by_cases c8 : (l0_2.length : Int) < 1
    ·rw [if_pos c8] at H
     have c8b0 : decide ((l0_2.length : Int) < 1) = true := decide_eq_true c8
     have c8b1 : decide (l0_2.length < 1) = true := decide_eq_true (by omega)
     clear c8
     (first | rw [c8b0] | (simp only [i64_w, i32_w]; rw [c8b0]) | skip)
     have H' := Aside0.mk H
     clear H
     have hcz9_0 : w3.cell? ⟨gb144, 0, none⟩ = some (.string a0_0) := (blk_cell BK144.out 0).trans rfl
     have hcz9_1 : w3.cell? ⟨gb144, 1, none⟩ = some (.string a0_1) := (blk_cell BK144.out 1).trans rfl
     have hcz9_2 : w3.cell? ⟨gb144, 2, none⟩ = some (.slice A0_2 l0_2.length c0_2) := (blk_cell BK144.out 2).trans rfl
     have hcz9_3 : w3.cell? ⟨gb144, 3, none⟩ = some (.string a0_3) := (blk_cell BK144.out 3).trans rfl
     have hcz9_4 : w3.cell? ⟨gb144, 4, none⟩ = some (.slice A0_4 l0_4.length c0_4) := (blk_cell BK144.out 4).trans rfl
     have hcz9_5 : w3.cell? ⟨gb144, 5, none⟩ = some (.slice A0_5 l0_5.length c0_5) := (blk_cell BK144.out 5).trans rfl
     have hcz9_6 : w3.cell? ⟨gb144, 6, none⟩ = some (.slice A0_6 l0_6.length c0_6) := (blk_cell BK144.out 6).trans rfl
     have hfz9_0 := blk_frozen BK144.out 0
     have hfz9_1 := blk_frozen BK144.out 1
     have hfz9_2 := blk_frozen BK144.out 2
     have hfz9_3 := blk_frozen BK144.out 3
     have hfz9_4 := blk_frozen BK144.out 4
     have hfz9_5 := blk_frozen BK144.out 5
     have hfz9_6 := blk_frozen BK144.out 6
     go_wp2_with (first | ((with_reducible refine gate_callee (f := 21) rfl ?_); refine goesL_ (some 7) rfl rfl Try.func21 (by kernel_rfl) rfl #[.string a0_0] rfl (by (try simp only [List.map_toArray, List.map_cons, List.map_nil]); first | done | rfl | (simp only [List.length_drop, List.length_take]; rfl)) ?_; (with_reducible refine (spec_NameOk.calls k a0_0 true _ A4.out).mono ?_); rintro e w' ⟨rfl, ⟨nd, rfl⟩⟩; refine ⟨_, rfl, ?_⟩) | (go_at_call 49; (with_reducible refine (spec_l5TextOk.calls k a0_1 true _ A6.out).mono ?_); rintro e w' ⟨rfl, ⟨nd, rfl⟩⟩))
     go_meet
     case rel => exact ⟨_, (true), (by first | rfl | (simp; done) | (simp [*]; done)), H', ⟨by first | omega | exact Nat.le_refl _⟩, ⟨by (with_reducible repeat (first | refine blk_drewN ?_ _ | refine blk_drew ?_ | refine blk_alloc ?_ _)); exact BK144.out⟩, ⟨by repeat (first | (with_reducible first | exact HB.out | apply below_alloc | apply pw_below_drewN | apply below_drew1 | refine below_set ?_ GE144.out) | exact HB.out)⟩⟩
    ·rw [if_neg c8] at H
     have c8b0 : decide ((l0_2.length : Int) < 1) = false := decide_eq_false c8
     have c8b1 : decide (l0_2.length < 1) = false := decide_eq_false (by omega)
     clear c8
     (first | rw [c8b0] | (simp only [i64_w, i32_w]; rw [c8b0]) | skip)
     by_cases c10 : (l0_2.length : Int) > 5
     ·rw [if_pos c10] at H
      have c10b0 : decide (5 < (l0_2.length : Int)) = true := decide_eq_true c10
      have c10b1 : decide (5 < l0_2.length) = true := decide_eq_true (by omega)
      clear c10
      have H' := Aside0.mk H
      clear H
      have hcz11_0 : w3.cell? ⟨gb144, 0, none⟩ = some (.string a0_0) := (blk_cell BK144.out 0).trans rfl
      have hcz11_1 : w3.cell? ⟨gb144, 1, none⟩ = some (.string a0_1) := (blk_cell BK144.out 1).trans rfl
      have hcz11_2 : w3.cell? ⟨gb144, 2, none⟩ = some (.slice A0_2 l0_2.length c0_2) := (blk_cell BK144.out 2).trans rfl
      have hcz11_3 : w3.cell? ⟨gb144, 3, none⟩ = some (.string a0_3) := (blk_cell BK144.out 3).trans rfl
      have hcz11_4 : w3.cell? ⟨gb144, 4, none⟩ = some (.slice A0_4 l0_4.length c0_4) := (blk_cell BK144.out 4).trans rfl
      have hcz11_5 : w3.cell? ⟨gb144, 5, none⟩ = some (.slice A0_5 l0_5.length c0_5) := (blk_cell BK144.out 5).trans rfl
      have hcz11_6 : w3.cell? ⟨gb144, 6, none⟩ = some (.slice A0_6 l0_6.length c0_6) := (blk_cell BK144.out 6).trans rfl
      have hfz11_0 := blk_frozen BK144.out 0
      have hfz11_1 := blk_frozen BK144.out 1
      have hfz11_2 := blk_frozen BK144.out 2
      have hfz11_3 := blk_frozen BK144.out 3
      have hfz11_4 := blk_frozen BK144.out 4
      have hfz11_5 := blk_frozen BK144.out 5
      have hfz11_6 := blk_frozen BK144.out 6
      go_wp2_with (first | ((with_reducible refine gate_callee (f := 21) rfl ?_); refine goesL_ (some 7) rfl rfl Try.func21 (by kernel_rfl) rfl #[.string a0_0] rfl (by (try simp only [List.map_toArray, List.map_cons, List.map_nil]); first | done | rfl | (simp only [List.length_drop, List.length_take]; rfl)) ?_; (with_reducible refine (spec_NameOk.calls k a0_0 true _ A4.out).mono ?_); rintro e w' ⟨rfl, ⟨nd, rfl⟩⟩; refine ⟨_, rfl, ?_⟩) | (go_at_call 49; (with_reducible refine (spec_l5TextOk.calls k a0_1 true _ A6.out).mono ?_); rintro e w' ⟨rfl, ⟨nd, rfl⟩⟩))
      go_meet
      case rel => exact ⟨_, (true), (by first | rfl | (simp; done) | (simp [*]; done)), H', ⟨by first | omega | exact Nat.le_refl _⟩, ⟨by (with_reducible repeat (first | refine blk_drewN ?_ _ | refine blk_drew ?_ | refine blk_alloc ?_ _)); exact BK144.out⟩, ⟨by repeat (first | (with_reducible first | exact HB.out | apply below_alloc | apply pw_below_drewN | apply below_drew1 | refine below_set ?_ GE144.out) | exact HB.out)⟩⟩
     ·rw [if_neg c10] at H
      have c10b0 : decide (5 < (l0_2.length : Int)) = false := decide_eq_false c10
      have c10b1 : decide (5 < l0_2.length) = false := decide_eq_false (by omega)
      clear c10
      by_cases c12 : (l0_4.length : Int) > 2000
      ·rw [if_pos c12] at H
       have c12b0 : decide (2000 < (l0_4.length : Int)) = true := decide_eq_true c12
       have c12b1 : decide (2000 < l0_4.length) = true := decide_eq_true (by omega)
       clear c12
       have H' := Aside0.mk H
       clear H
       have hcz13_0 : w3.cell? ⟨gb144, 0, none⟩ = some (.string a0_0) := (blk_cell BK144.out 0).trans rfl
       have hcz13_1 : w3.cell? ⟨gb144, 1, none⟩ = some (.string a0_1) := (blk_cell BK144.out 1).trans rfl
       have hcz13_2 : w3.cell? ⟨gb144, 2, none⟩ = some (.slice A0_2 l0_2.length c0_2) := (blk_cell BK144.out 2).trans rfl
       have hcz13_3 : w3.cell? ⟨gb144, 3, none⟩ = some (.string a0_3) := (blk_cell BK144.out 3).trans rfl
       have hcz13_4 : w3.cell? ⟨gb144, 4, none⟩ = some (.slice A0_4 l0_4.length c0_4) := (blk_cell BK144.out 4).trans rfl
       have hcz13_5 : w3.cell? ⟨gb144, 5, none⟩ = some (.slice A0_5 l0_5.length c0_5) := (blk_cell BK144.out 5).trans rfl
       have hcz13_6 : w3.cell? ⟨gb144, 6, none⟩ = some (.slice A0_6 l0_6.length c0_6) := (blk_cell BK144.out 6).trans rfl
       have hfz13_0 := blk_frozen BK144.out 0
       have hfz13_1 := blk_frozen BK144.out 1
       have hfz13_2 := blk_frozen BK144.out 2
       have hfz13_3 := blk_frozen BK144.out 3
       have hfz13_4 := blk_frozen BK144.out 4
       have hfz13_5 := blk_frozen BK144.out 5
       have hfz13_6 := blk_frozen BK144.out 6
       go_wp2_with (first | ((with_reducible refine gate_callee (f := 21) rfl ?_); refine goesL_ (some 7) rfl rfl Try.func21 (by kernel_rfl) rfl #[.string a0_0] rfl (by (try simp only [List.map_toArray, List.map_cons, List.map_nil]); first | done | rfl | (simp only [List.length_drop, List.length_take]; rfl)) ?_; (with_reducible refine (spec_NameOk.calls k a0_0 true _ A4.out).mono ?_); rintro e w' ⟨rfl, ⟨nd, rfl⟩⟩; refine ⟨_, rfl, ?_⟩) | (go_at_call 49; (with_reducible refine (spec_l5TextOk.calls k a0_1 true _ A6.out).mono ?_); rintro e w' ⟨rfl, ⟨nd, rfl⟩⟩))
       go_meet
       case rel => exact ⟨_, (true), (by first | rfl | (simp; done) | (simp [*]; done)), H', ⟨by first | omega | exact Nat.le_refl _⟩, ⟨by (with_reducible repeat (first | refine blk_drewN ?_ _ | refine blk_drew ?_ | refine blk_alloc ?_ _)); exact BK144.out⟩, ⟨by repeat (first | (with_reducible first | exact HB.out | apply below_alloc | apply pw_below_drewN | apply below_drew1 | refine below_set ?_ GE144.out) | exact HB.out)⟩⟩
      ·rw [if_neg c12] at H
       have c12b0 : decide (2000 < (l0_4.length : Int)) = false := decide_eq_false c12
       have c12b1 : decide (2000 < l0_4.length) = false := decide_eq_false (by omega)
       clear c12
       by_cases c14 : (l0_5.length : Int) > 2000
       ·rw [if_pos c14] at H
        have c14b0 : decide (2000 < (l0_5.length : Int)) = true := decide_eq_true c14
        have c14b1 : decide (2000 < l0_5.length) = true := decide_eq_true (by omega)
        clear c14
        have H' := Aside0.mk H
        clear H
        have hcz15_0 : w3.cell? ⟨gb144, 0, none⟩ = some (.string a0_0) := (blk_cell BK144.out 0).trans rfl
        have hcz15_1 : w3.cell? ⟨gb144, 1, none⟩ = some (.string a0_1) := (blk_cell BK144.out 1).trans rfl
        have hcz15_2 : w3.cell? ⟨gb144, 2, none⟩ = some (.slice A0_2 l0_2.length c0_2) := (blk_cell BK144.out 2).trans rfl
        have hcz15_3 : w3.cell? ⟨gb144, 3, none⟩ = some (.string a0_3) := (blk_cell BK144.out 3).trans rfl
        have hcz15_4 : w3.cell? ⟨gb144, 4, none⟩ = some (.slice A0_4 l0_4.length c0_4) := (blk_cell BK144.out 4).trans rfl
        have hcz15_5 : w3.cell? ⟨gb144, 5, none⟩ = some (.slice A0_5 l0_5.length c0_5) := (blk_cell BK144.out 5).trans rfl
        have hcz15_6 : w3.cell? ⟨gb144, 6, none⟩ = some (.slice A0_6 l0_6.length c0_6) := (blk_cell BK144.out 6).trans rfl
        have hfz15_0 := blk_frozen BK144.out 0
        have hfz15_1 := blk_frozen BK144.out 1
        have hfz15_2 := blk_frozen BK144.out 2
        have hfz15_3 := blk_frozen BK144.out 3
        have hfz15_4 := blk_frozen BK144.out 4
        have hfz15_5 := blk_frozen BK144.out 5
        have hfz15_6 := blk_frozen BK144.out 6
        go_wp2_with (first | ((with_reducible refine gate_callee (f := 21) rfl ?_); refine goesL_ (some 7) rfl rfl Try.func21 (by kernel_rfl) rfl #[.string a0_0] rfl (by (try simp only [List.map_toArray, List.map_cons, List.map_nil]); first | done | rfl | (simp only [List.length_drop, List.length_take]; rfl)) ?_; (with_reducible refine (spec_NameOk.calls k a0_0 true _ A4.out).mono ?_); rintro e w' ⟨rfl, ⟨nd, rfl⟩⟩; refine ⟨_, rfl, ?_⟩) | (go_at_call 49; (with_reducible refine (spec_l5TextOk.calls k a0_1 true _ A6.out).mono ?_); rintro e w' ⟨rfl, ⟨nd, rfl⟩⟩))
        go_meet
        case rel => exact ⟨_, (true), (by first | rfl | (simp; done) | (simp [*]; done)), H', ⟨by first | omega | exact Nat.le_refl _⟩, ⟨by (with_reducible repeat (first | refine blk_drewN ?_ _ | refine blk_drew ?_ | refine blk_alloc ?_ _)); exact BK144.out⟩, ⟨by repeat (first | (with_reducible first | exact HB.out | apply below_alloc | apply pw_below_drewN | apply below_drew1 | refine below_set ?_ GE144.out) | exact HB.out)⟩⟩
       ·rw [if_neg c14] at H
        have c14b0 : decide (2000 < (l0_5.length : Int)) = false := decide_eq_false c14
        have c14b1 : decide (2000 < l0_5.length) = false := decide_eq_false (by omega)
        clear c14
        have H' := Aside0.mk H
        clear H
        have hcz16_0 : w3.cell? ⟨gb144, 0, none⟩ = some (.string a0_0) := (blk_cell BK144.out 0).trans rfl
        have hcz16_1 : w3.cell? ⟨gb144, 1, none⟩ = some (.string a0_1) := (blk_cell BK144.out 1).trans rfl
        have hcz16_2 : w3.cell? ⟨gb144, 2, none⟩ = some (.slice A0_2 l0_2.length c0_2) := (blk_cell BK144.out 2).trans rfl
        have hcz16_3 : w3.cell? ⟨gb144, 3, none⟩ = some (.string a0_3) := (blk_cell BK144.out 3).trans rfl
        have hcz16_4 : w3.cell? ⟨gb144, 4, none⟩ = some (.slice A0_4 l0_4.length c0_4) := (blk_cell BK144.out 4).trans rfl
        have hcz16_5 : w3.cell? ⟨gb144, 5, none⟩ = some (.slice A0_5 l0_5.length c0_5) := (blk_cell BK144.out 5).trans rfl
        have hcz16_6 : w3.cell? ⟨gb144, 6, none⟩ = some (.slice A0_6 l0_6.length c0_6) := (blk_cell BK144.out 6).trans rfl
        have hfz16_0 := blk_frozen BK144.out 0
        have hfz16_1 := blk_frozen BK144.out 1
        have hfz16_2 := blk_frozen BK144.out 2
        have hfz16_3 := blk_frozen BK144.out 3
        have hfz16_4 := blk_frozen BK144.out 4
        have hfz16_5 := blk_frozen BK144.out 5
        have hfz16_6 := blk_frozen BK144.out 6
        go_wp2_with (first | ((with_reducible refine gate_callee (f := 21) rfl ?_); refine goesL_ (some 7) rfl rfl Try.func21 (by kernel_rfl) rfl #[.string a0_0] rfl (by (try simp only [List.map_toArray, List.map_cons, List.map_nil]); first | done | rfl | (simp only [List.length_drop, List.length_take]; rfl)) ?_; (with_reducible refine (spec_NameOk.calls k a0_0 true _ A4.out).mono ?_); rintro e w' ⟨rfl, ⟨nd, rfl⟩⟩; refine ⟨_, rfl, ?_⟩) | (go_at_call 49; (with_reducible refine (spec_l5TextOk.calls k a0_1 true _ A6.out).mono ?_); rintro e w' ⟨rfl, ⟨nd, rfl⟩⟩))
        go_meet
        case rel => exact ⟨_, (decide ((l0_6.length : Int) > 2000)), (by first | rfl | (simp; done) | (simp [*]; done)), H', ⟨by first | omega | exact Nat.le_refl _⟩, ⟨by (with_reducible repeat (first | refine blk_drewN ?_ _ | refine blk_drew ?_ | refine blk_alloc ?_ _)); exact BK144.out⟩, ⟨by repeat (first | (with_reducible first | exact HB.out | apply below_alloc | apply pw_below_drewN | apply below_drew1 | refine below_set ?_ GE144.out) | exact HB.out)⟩⟩
   ·replace c7 := Bool.eq_false_iff.mpr c7
    subst c7
    have H1 : (spec_DrvOk.j0 k true a0_0 a0_1 l0_2 a0_3 l0_4 l0_5 l0_6) = some r := by rw [if_neg (show ¬ (false = true) by decide)] at H; exact H
    clear H
    have H := H1
    clear H1
    have H' := Aside0.mk H
    clear H
    have hcz17_0 : w3.cell? ⟨gb144, 0, none⟩ = some (.string a0_0) := (blk_cell BK144.out 0).trans rfl
    have hcz17_1 : w3.cell? ⟨gb144, 1, none⟩ = some (.string a0_1) := (blk_cell BK144.out 1).trans rfl
    have hcz17_2 : w3.cell? ⟨gb144, 2, none⟩ = some (.slice A0_2 l0_2.length c0_2) := (blk_cell BK144.out 2).trans rfl
    have hcz17_3 : w3.cell? ⟨gb144, 3, none⟩ = some (.string a0_3) := (blk_cell BK144.out 3).trans rfl
    have hcz17_4 : w3.cell? ⟨gb144, 4, none⟩ = some (.slice A0_4 l0_4.length c0_4) := (blk_cell BK144.out 4).trans rfl
    have hcz17_5 : w3.cell? ⟨gb144, 5, none⟩ = some (.slice A0_5 l0_5.length c0_5) := (blk_cell BK144.out 5).trans rfl
    have hcz17_6 : w3.cell? ⟨gb144, 6, none⟩ = some (.slice A0_6 l0_6.length c0_6) := (blk_cell BK144.out 6).trans rfl
    have hfz17_0 := blk_frozen BK144.out 0
    have hfz17_1 := blk_frozen BK144.out 1
    have hfz17_2 := blk_frozen BK144.out 2
    have hfz17_3 := blk_frozen BK144.out 3
    have hfz17_4 := blk_frozen BK144.out 4
    have hfz17_5 := blk_frozen BK144.out 5
    have hfz17_6 := blk_frozen BK144.out 6
    go_wp2_with (first | ((with_reducible refine gate_callee (f := 21) rfl ?_); refine goesL_ (some 7) rfl rfl Try.func21 (by kernel_rfl) rfl #[.string a0_0] rfl (by (try simp only [List.map_toArray, List.map_cons, List.map_nil]); first | done | rfl | (simp only [List.length_drop, List.length_take]; rfl)) ?_; (with_reducible refine (spec_NameOk.calls k a0_0 true _ A4.out).mono ?_); rintro e w' ⟨rfl, ⟨nd, rfl⟩⟩; refine ⟨_, rfl, ?_⟩) | (go_at_call 49; (with_reducible refine (spec_l5TextOk.calls k a0_1 false _ A6.out).mono ?_); rintro e w' ⟨rfl, ⟨nd, rfl⟩⟩))
    go_meet
    case rel => exact ⟨_, (true), (by first | rfl | (simp; done) | (simp [*]; done)), H', ⟨by first | omega | exact Nat.le_refl _⟩, ⟨by (with_reducible repeat (first | refine blk_drewN ?_ _ | refine blk_drew ?_ | refine blk_alloc ?_ _)); exact BK144.out⟩, ⟨by repeat (first | (with_reducible first | exact HB.out | apply below_alloc | apply pw_below_drewN | apply below_drew1 | refine below_set ?_ GE144.out) | exact HB.out)⟩⟩
  ·replace c5 := Bool.eq_false_iff.mpr c5
   subst c5
   have H1 : (spec_DrvOk.j0 k true a0_0 a0_1 l0_2 a0_3 l0_4 l0_5 l0_6) = some r := by rw [if_neg (show ¬ (false = true) by decide)] at H; exact H
   clear H
   have H := H1
   clear H1
   have H' := Aside0.mk H
   clear H
   have hcz18_0 : w3.cell? ⟨gb144, 0, none⟩ = some (.string a0_0) := (blk_cell BK144.out 0).trans rfl
   have hcz18_1 : w3.cell? ⟨gb144, 1, none⟩ = some (.string a0_1) := (blk_cell BK144.out 1).trans rfl
   have hcz18_2 : w3.cell? ⟨gb144, 2, none⟩ = some (.slice A0_2 l0_2.length c0_2) := (blk_cell BK144.out 2).trans rfl
   have hcz18_3 : w3.cell? ⟨gb144, 3, none⟩ = some (.string a0_3) := (blk_cell BK144.out 3).trans rfl
   have hcz18_4 : w3.cell? ⟨gb144, 4, none⟩ = some (.slice A0_4 l0_4.length c0_4) := (blk_cell BK144.out 4).trans rfl
   have hcz18_5 : w3.cell? ⟨gb144, 5, none⟩ = some (.slice A0_5 l0_5.length c0_5) := (blk_cell BK144.out 5).trans rfl
   have hcz18_6 : w3.cell? ⟨gb144, 6, none⟩ = some (.slice A0_6 l0_6.length c0_6) := (blk_cell BK144.out 6).trans rfl
   have hfz18_0 := blk_frozen BK144.out 0
   have hfz18_1 := blk_frozen BK144.out 1
   have hfz18_2 := blk_frozen BK144.out 2
   have hfz18_3 := blk_frozen BK144.out 3
   have hfz18_4 := blk_frozen BK144.out 4
   have hfz18_5 := blk_frozen BK144.out 5
   have hfz18_6 := blk_frozen BK144.out 6
   go_wp2_with (first | ((with_reducible refine gate_callee (f := 21) rfl ?_); refine goesL_ (some 7) rfl rfl Try.func21 (by kernel_rfl) rfl #[.string a0_0] rfl (by (try simp only [List.map_toArray, List.map_cons, List.map_nil]); first | done | rfl | (simp only [List.length_drop, List.length_take]; rfl)) ?_; (with_reducible refine (spec_NameOk.calls k a0_0 false _ A4.out).mono ?_); rintro e w' ⟨rfl, ⟨nd, rfl⟩⟩; refine ⟨_, rfl, ?_⟩))
   go_meet
   case rel => exact ⟨_, (true), (by first | rfl | (simp; done) | (simp [*]; done)), H', ⟨by first | omega | exact Nat.le_refl _⟩, ⟨by (with_reducible repeat (first | refine blk_drewN ?_ _ | refine blk_drew ?_ | refine blk_alloc ?_ _)); exact BK144.out⟩, ⟨by repeat (first | (with_reducible first | exact HB.out | apply below_alloc | apply pw_below_drewN | apply below_drew1 | refine below_set ?_ GE144.out) | exact HB.out)⟩⟩
 case rest =>
  clear HC2
  try clear c1
  try clear c2
  try clear p2
  try clear c5
  try clear c7
  try clear c8
  try clear c8b0
  try clear c8b1
  try clear c10
  try clear c10b0
  try clear c10b1
  try clear c12
  try clear c12b0
  try clear c12b1
  try clear c14
  try clear c14b0
  try clear c14b1
  try clear hcz11_0
  try clear hcz11_1
  try clear hcz11_2
  try clear hcz11_3
  try clear hcz11_4
  try clear hcz11_5
  try clear hcz11_6
  try clear hcz13_0
  try clear hcz13_1
  try clear hcz13_2
  try clear hcz13_3
  try clear hcz13_4
  try clear hcz13_5
  try clear hcz13_6
  try clear hcz15_0
  try clear hcz15_1
  try clear hcz15_2
  try clear hcz15_3
  try clear hcz15_4
  try clear hcz15_5
  try clear hcz15_6
  try clear hcz16_0
  try clear hcz16_1
  try clear hcz16_2
  try clear hcz16_3
  try clear hcz16_4
  try clear hcz16_5
  try clear hcz16_6
  try clear hcz17_0
  try clear hcz17_1
  try clear hcz17_2
  try clear hcz17_3
  try clear hcz17_4
  try clear hcz17_5
  try clear hcz17_6
  try clear hcz18_0
  try clear hcz18_1
  try clear hcz18_2
  try clear hcz18_3
  try clear hcz18_4
  try clear hcz18_5
  try clear hcz18_6
  try clear hcz9_0
  try clear hcz9_1
  try clear hcz9_2
  try clear hcz9_3
  try clear hcz9_4
  try clear hcz9_5
  try clear hcz9_6
  try clear hfz11_0
  try clear hfz11_1
  try clear hfz11_2
  try clear hfz11_3
  try clear hfz11_4
  try clear hfz11_5
  try clear hfz11_6
  try clear hfz13_0
  try clear hfz13_1
  try clear hfz13_2
  try clear hfz13_3
  try clear hfz13_4
  try clear hfz13_5
  try clear hfz13_6
  try clear hfz15_0
  try clear hfz15_1
  try clear hfz15_2
  try clear hfz15_3
  try clear hfz15_4
  try clear hfz15_5
  try clear hfz15_6
  try clear hfz16_0
  try clear hfz16_1
  try clear hfz16_2
  try clear hfz16_3
  try clear hfz16_4
  try clear hfz16_5
  try clear hfz16_6
  try clear hfz17_0
  try clear hfz17_1
  try clear hfz17_2
  try clear hfz17_3
  try clear hfz17_4
  try clear hfz17_5
  try clear hfz17_6
  try clear hfz18_0
  try clear hfz18_1
  try clear hfz18_2
  try clear hfz18_3
  try clear hfz18_4
  try clear hfz18_5
  try clear hfz18_6
  try clear hfz9_0
  try clear hfz9_1
  try clear hfz9_2
  try clear hfz9_3
  try clear hfz9_4
  try clear hfz9_5
  try clear hfz9_6
  obtain ⟨kq, x44_1, rfl, HA, HJ1, BK144, HB⟩ := hcut
  cases kq with
  | zero => exact absurd HA.out (by simp [spec_DrvOk.j0])
  | succ kj1 =>
   have H := HA.out
   clear HA
   simp only [spec_DrvOk.j0] at H
   by_cases c19 : x44_1 = true
   ·subst c19
    have H1 : (some false) = some r := by rw [if_pos rfl] at H; exact H
    clear H
    have H := H1
    clear H1
    obtain rfl := Option.some.inj H
    go_wp2
    go_ret
    exact ⟨by first | rfl | (simp [errW_none, errW_some] <;> rfl) | (simp [*, errW_none, errW_some] <;> rfl), by repeat (first | (with_reducible first | exact HB.out | apply below_alloc | apply pw_below_drewN | apply below_drew1 | refine below_set ?_ GE144.out) | exact HB.out)⟩
   ·replace c19 := Bool.eq_false_iff.mpr c19
    subst c19
    have H1 : (if a0_3.toList = ([] : List UInt8) then ((spec_l5Usual.f kj1 a0_0 a0_1 l0_2 a0_3 l0_4 l0_5 l0_6).bind fun t147 => (some t147)) else ((spec_ReadWord32.f kj1 a0_3).bind fun bt148 => (if bt148.2 = true then (if (l0_2.length : Int) = 1 then (if 0 < (l0_2.length : Int) then (if (rdOf ByteArray.empty l0_2 0).toList = ([111, 117, 116] : List UInt8) then ((spec_l5Usual.f kj1 a0_0 a0_1 l0_2 a0_3 l0_4 l0_5 l0_6).bind fun t151 => (some t151)) else (some false)) else (none)) else (some false)) else (some false)))) = some r := by rw [if_neg (show ¬ (false = true) by decide)] at H; exact H
    clear H
    have H := H1
    clear H1
    by_cases c20 : a0_3.toList = ([] : List UInt8)
    ·rw [if_pos c20] at H
     have c20b0 : (a0_3.toList == ([] : List UInt8)) = true := beq_iff_eq.mpr c20
     have c20b1 : (a0_3.toList != ([] : List UInt8)) = false := bne_eq_false_iff_eq.mpr c20
     clear c20
     replace H := Option.bind_eq_some_iff.mp H
     obtain ⟨t147, A210, H⟩ := H
     replace H : (some t147) = some r := H
     have A21 := Aside0.mk A210
     clear A210
     obtain rfl := Option.some.inj H
     have hcz22_0 : wc.cell? ⟨gb144, 0, none⟩ = some (.string a0_0) := (blk_cell BK144.out 0).trans rfl
     have hcz22_1 : wc.cell? ⟨gb144, 1, none⟩ = some (.string a0_1) := (blk_cell BK144.out 1).trans rfl
     have hcz22_2 : wc.cell? ⟨gb144, 2, none⟩ = some (.slice A0_2 l0_2.length c0_2) := (blk_cell BK144.out 2).trans rfl
     have hcz22_3 : wc.cell? ⟨gb144, 3, none⟩ = some (.string a0_3) := (blk_cell BK144.out 3).trans rfl
     have hcz22_4 : wc.cell? ⟨gb144, 4, none⟩ = some (.slice A0_4 l0_4.length c0_4) := (blk_cell BK144.out 4).trans rfl
     have hcz22_5 : wc.cell? ⟨gb144, 5, none⟩ = some (.slice A0_5 l0_5.length c0_5) := (blk_cell BK144.out 5).trans rfl
     have hcz22_6 : wc.cell? ⟨gb144, 6, none⟩ = some (.slice A0_6 l0_6.length c0_6) := (blk_cell BK144.out 6).trans rfl
     have hfz22_0 := blk_frozen BK144.out 0
     have hfz22_1 := blk_frozen BK144.out 1
     have hfz22_2 := blk_frozen BK144.out 2
     have hfz22_3 := blk_frozen BK144.out 3
     have hfz22_4 := blk_frozen BK144.out 4
     have hfz22_5 := blk_frozen BK144.out 5
     have hfz22_6 := blk_frozen BK144.out 6
     go_wp2_with (first | ((with_reducible refine gate_callee (f := 50) rfl ?_); refine goesL_ (some 70) rfl rfl Try.func50 (by kernel_rfl) rfl #[.agg #[.string a0_0, .string a0_1, .slice A0_2 l0_2.length c0_2, .string a0_3, .slice A0_4 l0_4.length c0_4, .slice A0_5 l0_5.length c0_5, .slice A0_6 l0_6.length c0_6]] rfl (by (try simp only [List.map_toArray, List.map_cons, List.map_nil]); first | done | rfl | (simp only [List.length_drop, List.length_take]; rfl)) ?_; (with_reducible refine (spec_l5Usual.calls kj1 a0_0 a0_1 _ _ l0_2 a0_3 _ _ l0_4 _ _ l0_5 _ _ l0_6 t147 _ ?side1 ?side2 ?side3 ?side4 ?side5 ?side6 ?side7 ?side8 A21.out).mono ?_); (case side1 => repeat (first | exact (Kd.C_below HR0_2.out HB.out) | (with_reducible refine Kd.C_alloc ?_ _) | (with_reducible refine Kd.C_drewN ?_ _) | (with_reducible refine Kd.C_drew ?_))); (case side2 => exact HC0_2.out); (case side3 => repeat (first | exact (Kd.C_below HR0_4.out HB.out) | (with_reducible refine Kd.C_alloc ?_ _) | (with_reducible refine Kd.C_drewN ?_ _) | (with_reducible refine Kd.C_drew ?_))); (case side4 => exact HC0_4.out); (case side5 => repeat (first | exact (Kd.C_below HR0_5.out HB.out) | (with_reducible refine Kd.C_alloc ?_ _) | (with_reducible refine Kd.C_drewN ?_ _) | (with_reducible refine Kd.C_drew ?_))); (case side6 => exact HC0_5.out); (case side7 => repeat (first | exact (Kd.C_below HR0_6.out HB.out) | (with_reducible refine Kd.C_alloc ?_ _) | (with_reducible refine Kd.C_drewN ?_ _) | (with_reducible refine Kd.C_drew ?_))); (case side8 => exact HC0_6.out); rintro e w23 ⟨rfl, hb⟩; refine ⟨_, rfl, ?_⟩; have n0_ := Aside0.mk (blk_below (g := gb144) (qK BK144.out) hb); have n1_ := Aside0.mk (below_step (qG GE144.out) hb); clear BK144; clear HB; have BK144 := n0_; have HB := n1_; clear n0_ n1_; (try clear hb); (try clear hb2); (try clear hk); (try clear hi)))
     go_ret
     exact ⟨by first | rfl | (simp [errW_none, errW_some] <;> rfl) | (simp [*, errW_none, errW_some] <;> rfl), by repeat (first | (with_reducible first | exact HB.out | apply below_alloc | apply pw_below_drewN | apply below_drew1 | refine below_set ?_ GE144.out) | exact HB.out)⟩
    ·rw [if_neg c20] at H
     have c20b0 : (a0_3.toList == ([] : List UInt8)) = false := beq_eq_false_iff_ne.mpr c20
     have c20b1 : (a0_3.toList != ([] : List UInt8)) = true := bne_iff_ne.mpr c20
     replace H := Option.bind_eq_some_iff.mp H
     obtain ⟨⟨t148, t149⟩, A240, H⟩ := H
     replace H : (if t149 = true then (if (l0_2.length : Int) = 1 then (if 0 < (l0_2.length : Int) then (if (rdOf ByteArray.empty l0_2 0).toList = ([111, 117, 116] : List UInt8) then ((spec_l5Usual.f kj1 a0_0 a0_1 l0_2 a0_3 l0_4 l0_5 l0_6).bind fun t151 => (some t151)) else (some false)) else (none)) else (some false)) else (some false)) = some r := H
     have A24 := Aside0.mk A240
     clear A240
     by_cases c25 : t149 = true
     ·subst c25
      have H1 : (if (l0_2.length : Int) = 1 then (if 0 < (l0_2.length : Int) then (if (rdOf ByteArray.empty l0_2 0).toList = ([111, 117, 116] : List UInt8) then ((spec_l5Usual.f kj1 a0_0 a0_1 l0_2 a0_3 l0_4 l0_5 l0_6).bind fun t151 => (some t151)) else (some false)) else (none)) else (some false)) = some r := by rw [if_pos rfl] at H; exact H
      clear H
      have H := H1
      clear H1
      by_cases c26 : (l0_2.length : Int) = 1
      ·rw [if_pos c26] at H
       have c26b0 : ((l0_2.length : Int) == 1) = true := beq_iff_eq.mpr c26
       have c26b1 : ((l0_2.length : Int) != 1) = false := bne_eq_false_iff_eq.mpr c26
       clear c26
       by_cases c27 : 0 < (l0_2.length : Int)
       ·rw [if_pos c27] at H
        have c27b0 : decide (0 < (l0_2.length : Int)) = true := decide_eq_true c27
        have c27b1 : decide (0 < l0_2.length) = true := decide_eq_true (by omega)
        clear c27
        by_cases c28 : (rdOf ByteArray.empty l0_2 0).toList = ([111, 117, 116] : List UInt8)
        ·rw [if_pos c28] at H
         have c28b0 : ((rdOf ByteArray.empty l0_2 0).toList == ([111, 117, 116] : List UInt8)) = true := beq_iff_eq.mpr c28
         have c28b1 : ((rdOf ByteArray.empty l0_2 0).toList != ([111, 117, 116] : List UInt8)) = false := bne_eq_false_iff_eq.mpr c28
         clear c28
         replace H := Option.bind_eq_some_iff.mp H
         obtain ⟨t151, A290, H⟩ := H
         replace H : (some t151) = some r := H
         have A29 := Aside0.mk A290
         clear A290
         obtain rfl := Option.some.inj H
         have hcz30_0 : wc.cell? ⟨gb144, 0, none⟩ = some (.string a0_0) := (blk_cell BK144.out 0).trans rfl
         have hcz30_1 : wc.cell? ⟨gb144, 1, none⟩ = some (.string a0_1) := (blk_cell BK144.out 1).trans rfl
         have hcz30_2 : wc.cell? ⟨gb144, 2, none⟩ = some (.slice A0_2 l0_2.length c0_2) := (blk_cell BK144.out 2).trans rfl
         have hcz30_3 : wc.cell? ⟨gb144, 3, none⟩ = some (.string a0_3) := (blk_cell BK144.out 3).trans rfl
         have hcz30_4 : wc.cell? ⟨gb144, 4, none⟩ = some (.slice A0_4 l0_4.length c0_4) := (blk_cell BK144.out 4).trans rfl
         have hcz30_5 : wc.cell? ⟨gb144, 5, none⟩ = some (.slice A0_5 l0_5.length c0_5) := (blk_cell BK144.out 5).trans rfl
         have hcz30_6 : wc.cell? ⟨gb144, 6, none⟩ = some (.slice A0_6 l0_6.length c0_6) := (blk_cell BK144.out 6).trans rfl
         have hfz30_0 := blk_frozen BK144.out 0
         have hfz30_1 := blk_frozen BK144.out 1
         have hfz30_2 := blk_frozen BK144.out 2
         have hfz30_3 := blk_frozen BK144.out 3
         have hfz30_4 := blk_frozen BK144.out 4
         have hfz30_5 := blk_frozen BK144.out 5
         have hfz30_6 := blk_frozen BK144.out 6
         go_wp2_with (first | ((with_reducible refine gate_callee (f := 19) rfl ?_); refine goesL_ (some 51) rfl rfl Try.func19 (by kernel_rfl) rfl #[.string a0_3] rfl (by (try simp only [List.map_toArray, List.map_cons, List.map_nil]); first | done | rfl | (simp only [List.length_drop, List.length_take]; rfl)) ?_; (with_reducible refine (spec_ReadWord32.calls kj1 a0_3 t148 true _ A24.out).mono ?_); rintro e w' ⟨rfl, ⟨nd, rfl⟩⟩; refine ⟨_, rfl, ?_⟩; have p150 : 0 ≤ (0 : Int) := (by omega); have q150 : 0 < (l0_2.length : Int) := of_decide_eq_true (by first | (with_reducible assumption) | assumption); obtain ⟨ad150, e150, hx150_0⟩ := Kd.at_string HR0_2.out 0 p150 q150; cases e150; have qi150 : (0 < l0_2.length) = True := eq_true (by omega); (try rw [show ((0 : Int)).toNat = 0 from rfl] at hx150_0); (try rw [Addr.add_zero'] at hx150_0); replace hx150_0 := (HB.out.cell (World.block_lt_of_cell? w _ hx150_0)).trans hx150_0; replace p150 := eq_true p150; replace q150 := eq_true q150) | ((with_reducible refine gate_callee (f := 50) rfl ?_); refine goesL_ (some 70) rfl rfl Try.func50 (by kernel_rfl) rfl #[.agg #[.string a0_0, .string a0_1, .slice (some ad150) l0_2.length c0_2, .string a0_3, .slice A0_4 l0_4.length c0_4, .slice A0_5 l0_5.length c0_5, .slice A0_6 l0_6.length c0_6]] rfl (by (try simp only [List.map_toArray, List.map_cons, List.map_nil]); first | done | rfl | (simp only [List.length_drop, List.length_take]; rfl)) ?_; (with_reducible refine (spec_l5Usual.calls kj1 a0_0 a0_1 _ _ l0_2 a0_3 _ _ l0_4 _ _ l0_5 _ _ l0_6 t151 _ ?side1 ?side2 ?side3 ?side4 ?side5 ?side6 ?side7 ?side8 A29.out).mono ?_); (case side1 => repeat (first | exact (Kd.C_below HR0_2.out (qG GE144.out)) | (with_reducible refine Kd.C_alloc ?_ _) | (with_reducible refine Kd.C_drewN ?_ _) | (with_reducible refine Kd.C_drew ?_))); (case side2 => exact HC0_2.out); (case side3 => repeat (first | exact (Kd.C_below HR0_4.out (qG GE144.out)) | (with_reducible refine Kd.C_alloc ?_ _) | (with_reducible refine Kd.C_drewN ?_ _) | (with_reducible refine Kd.C_drew ?_))); (case side4 => exact HC0_4.out); (case side5 => repeat (first | exact (Kd.C_below HR0_5.out (qG GE144.out)) | (with_reducible refine Kd.C_alloc ?_ _) | (with_reducible refine Kd.C_drewN ?_ _) | (with_reducible refine Kd.C_drew ?_))); (case side6 => exact HC0_5.out); (case side7 => repeat (first | exact (Kd.C_below HR0_6.out (qG GE144.out)) | (with_reducible refine Kd.C_alloc ?_ _) | (with_reducible refine Kd.C_drewN ?_ _) | (with_reducible refine Kd.C_drew ?_))); (case side8 => exact HC0_6.out); rintro e w31 ⟨rfl, hb⟩; refine ⟨_, rfl, ?_⟩; have n0_ := Aside0.mk (blk_below (g := gb144) (qK BK144.out) hb); have n1_ := Aside0.mk (below_step (qG GE144.out) hb); clear BK144; clear HB; have BK144 := n0_; have HB := n1_; clear n0_ n1_; (try clear hb); (try clear hb2); (try clear hk); (try clear hi)))
         go_ret
         exact ⟨by first | rfl | (simp [errW_none, errW_some] <;> rfl) | (simp [*, errW_none, errW_some] <;> rfl), by repeat (first | (with_reducible first | exact HB.out | apply below_alloc | apply pw_below_drewN | apply below_drew1 | refine below_set ?_ GE144.out) | exact HB.out)⟩
        ·rw [if_neg c28] at H
         have c28b0 : ((rdOf ByteArray.empty l0_2 0).toList == ([111, 117, 116] : List UInt8)) = false := beq_eq_false_iff_ne.mpr c28
         have c28b1 : ((rdOf ByteArray.empty l0_2 0).toList != ([111, 117, 116] : List UInt8)) = true := bne_iff_ne.mpr c28
         obtain rfl := Option.some.inj H
         have hcz32_0 : wc.cell? ⟨gb144, 0, none⟩ = some (.string a0_0) := (blk_cell BK144.out 0).trans rfl
         have hcz32_1 : wc.cell? ⟨gb144, 1, none⟩ = some (.string a0_1) := (blk_cell BK144.out 1).trans rfl
         have hcz32_2 : wc.cell? ⟨gb144, 2, none⟩ = some (.slice A0_2 l0_2.length c0_2) := (blk_cell BK144.out 2).trans rfl
         have hcz32_3 : wc.cell? ⟨gb144, 3, none⟩ = some (.string a0_3) := (blk_cell BK144.out 3).trans rfl
         have hcz32_4 : wc.cell? ⟨gb144, 4, none⟩ = some (.slice A0_4 l0_4.length c0_4) := (blk_cell BK144.out 4).trans rfl
         have hcz32_5 : wc.cell? ⟨gb144, 5, none⟩ = some (.slice A0_5 l0_5.length c0_5) := (blk_cell BK144.out 5).trans rfl
         have hcz32_6 : wc.cell? ⟨gb144, 6, none⟩ = some (.slice A0_6 l0_6.length c0_6) := (blk_cell BK144.out 6).trans rfl
         have hfz32_0 := blk_frozen BK144.out 0
         have hfz32_1 := blk_frozen BK144.out 1
         have hfz32_2 := blk_frozen BK144.out 2
         have hfz32_3 := blk_frozen BK144.out 3
         have hfz32_4 := blk_frozen BK144.out 4
         have hfz32_5 := blk_frozen BK144.out 5
         have hfz32_6 := blk_frozen BK144.out 6
         go_wp2_with (first | ((with_reducible refine gate_callee (f := 19) rfl ?_); refine goesL_ (some 51) rfl rfl Try.func19 (by kernel_rfl) rfl #[.string a0_3] rfl (by (try simp only [List.map_toArray, List.map_cons, List.map_nil]); first | done | rfl | (simp only [List.length_drop, List.length_take]; rfl)) ?_; (with_reducible refine (spec_ReadWord32.calls kj1 a0_3 t148 true _ A24.out).mono ?_); rintro e w' ⟨rfl, ⟨nd, rfl⟩⟩; refine ⟨_, rfl, ?_⟩; have p150 : 0 ≤ (0 : Int) := (by omega); have q150 : 0 < (l0_2.length : Int) := of_decide_eq_true (by first | (with_reducible assumption) | assumption); obtain ⟨ad150, e150, hx150_0⟩ := Kd.at_string HR0_2.out 0 p150 q150; cases e150; have qi150 : (0 < l0_2.length) = True := eq_true (by omega); (try rw [show ((0 : Int)).toNat = 0 from rfl] at hx150_0); (try rw [Addr.add_zero'] at hx150_0); replace hx150_0 := (HB.out.cell (World.block_lt_of_cell? w _ hx150_0)).trans hx150_0; replace p150 := eq_true p150; replace q150 := eq_true q150))
         go_ret
         exact ⟨by first | rfl | (simp [errW_none, errW_some] <;> rfl) | (simp [*, errW_none, errW_some] <;> rfl), by repeat (first | (with_reducible first | exact HB.out | apply below_alloc | apply pw_below_drewN | apply below_drew1 | refine below_set ?_ GE144.out) | exact HB.out)⟩
       ·rw [if_neg c27] at H
        exact absurd H (by simp)
      ·rw [if_neg c26] at H
       have c26b0 : ((l0_2.length : Int) == 1) = false := beq_eq_false_iff_ne.mpr c26
       have c26b1 : ((l0_2.length : Int) != 1) = true := bne_iff_ne.mpr c26
       obtain rfl := Option.some.inj H
       have hcz33_0 : wc.cell? ⟨gb144, 0, none⟩ = some (.string a0_0) := (blk_cell BK144.out 0).trans rfl
       have hcz33_1 : wc.cell? ⟨gb144, 1, none⟩ = some (.string a0_1) := (blk_cell BK144.out 1).trans rfl
       have hcz33_2 : wc.cell? ⟨gb144, 2, none⟩ = some (.slice A0_2 l0_2.length c0_2) := (blk_cell BK144.out 2).trans rfl
       have hcz33_3 : wc.cell? ⟨gb144, 3, none⟩ = some (.string a0_3) := (blk_cell BK144.out 3).trans rfl
       have hcz33_4 : wc.cell? ⟨gb144, 4, none⟩ = some (.slice A0_4 l0_4.length c0_4) := (blk_cell BK144.out 4).trans rfl
       have hcz33_5 : wc.cell? ⟨gb144, 5, none⟩ = some (.slice A0_5 l0_5.length c0_5) := (blk_cell BK144.out 5).trans rfl
       have hcz33_6 : wc.cell? ⟨gb144, 6, none⟩ = some (.slice A0_6 l0_6.length c0_6) := (blk_cell BK144.out 6).trans rfl
       have hfz33_0 := blk_frozen BK144.out 0
       have hfz33_1 := blk_frozen BK144.out 1
       have hfz33_2 := blk_frozen BK144.out 2
       have hfz33_3 := blk_frozen BK144.out 3
       have hfz33_4 := blk_frozen BK144.out 4
       have hfz33_5 := blk_frozen BK144.out 5
       have hfz33_6 := blk_frozen BK144.out 6
       go_wp2_with (first | ((with_reducible refine gate_callee (f := 19) rfl ?_); refine goesL_ (some 51) rfl rfl Try.func19 (by kernel_rfl) rfl #[.string a0_3] rfl (by (try simp only [List.map_toArray, List.map_cons, List.map_nil]); first | done | rfl | (simp only [List.length_drop, List.length_take]; rfl)) ?_; (with_reducible refine (spec_ReadWord32.calls kj1 a0_3 t148 true _ A24.out).mono ?_); rintro e w' ⟨rfl, ⟨nd, rfl⟩⟩; refine ⟨_, rfl, ?_⟩))
       go_ret
       exact ⟨by first | rfl | (simp [errW_none, errW_some] <;> rfl) | (simp [*, errW_none, errW_some] <;> rfl), by repeat (first | (with_reducible first | exact HB.out | apply below_alloc | apply pw_below_drewN | apply below_drew1 | refine below_set ?_ GE144.out) | exact HB.out)⟩
     ·replace c25 := Bool.eq_false_iff.mpr c25
      subst c25
      have H1 : (some false) = some r := by rw [if_neg (show ¬ (false = true) by decide)] at H; exact H
      clear H
      have H := H1
      clear H1
      obtain rfl := Option.some.inj H
      have hcz34_0 : wc.cell? ⟨gb144, 0, none⟩ = some (.string a0_0) := (blk_cell BK144.out 0).trans rfl
      have hcz34_1 : wc.cell? ⟨gb144, 1, none⟩ = some (.string a0_1) := (blk_cell BK144.out 1).trans rfl
      have hcz34_2 : wc.cell? ⟨gb144, 2, none⟩ = some (.slice A0_2 l0_2.length c0_2) := (blk_cell BK144.out 2).trans rfl
      have hcz34_3 : wc.cell? ⟨gb144, 3, none⟩ = some (.string a0_3) := (blk_cell BK144.out 3).trans rfl
      have hcz34_4 : wc.cell? ⟨gb144, 4, none⟩ = some (.slice A0_4 l0_4.length c0_4) := (blk_cell BK144.out 4).trans rfl
      have hcz34_5 : wc.cell? ⟨gb144, 5, none⟩ = some (.slice A0_5 l0_5.length c0_5) := (blk_cell BK144.out 5).trans rfl
      have hcz34_6 : wc.cell? ⟨gb144, 6, none⟩ = some (.slice A0_6 l0_6.length c0_6) := (blk_cell BK144.out 6).trans rfl
      have hfz34_0 := blk_frozen BK144.out 0
      have hfz34_1 := blk_frozen BK144.out 1
      have hfz34_2 := blk_frozen BK144.out 2
      have hfz34_3 := blk_frozen BK144.out 3
      have hfz34_4 := blk_frozen BK144.out 4
      have hfz34_5 := blk_frozen BK144.out 5
      have hfz34_6 := blk_frozen BK144.out 6
      go_wp2_with (first | ((with_reducible refine gate_callee (f := 19) rfl ?_); refine goesL_ (some 51) rfl rfl Try.func19 (by kernel_rfl) rfl #[.string a0_3] rfl (by (try simp only [List.map_toArray, List.map_cons, List.map_nil]); first | done | rfl | (simp only [List.length_drop, List.length_take]; rfl)) ?_; (with_reducible refine (spec_ReadWord32.calls kj1 a0_3 t148 false _ A24.out).mono ?_); rintro e w' ⟨rfl, ⟨nd, rfl⟩⟩; refine ⟨_, rfl, ?_⟩))
      go_ret
      exact ⟨by first | rfl | (simp [errW_none, errW_some] <;> rfl) | (simp [*, errW_none, errW_some] <;> rfl), by repeat (first | (with_reducible first | exact HB.out | apply below_alloc | apply pw_below_drewN | apply below_drew1 | refine below_set ?_ GE144.out) | exact HB.out)⟩

/-! ### laws_toStringS: function 51 -/
def laws_toStringS.l0 : Nat → List ByteArray → List ByteArray → Int → Option (List ByteArray)
 | 0, _, _, _ => none
 | k + 1, x0, x3, x4 => if x4 < (x0.length : Int) then (if 0 ≤ x4 then (if x4 < (x3.length : Int) then (laws_toStringS.l0 k x0 (x3.set (x4 : Int).toNat (rdOf ByteArray.empty x0 x4)) (wrap64 (x4 + 1))) else (none)) else (none)) else (some x3)
def laws_toStringS.f (k : Nat) (l0 : List ByteArray) : Option (List ByteArray) := if 0 ≤ (l0.length : Int) then (if ((l0.length : Int) : Int).toNat ≤ 17592186044416 then (laws_toStringS.l0 k l0 (List.replicate ((l0.length : Int) : Int).toNat (⟨#[]⟩ : ByteArray)) 0) else (none)) else (none)
theorem laws_toStringS.mono_l : ∀ k, (∀ y0 y1 y2, LeO (laws_toStringS.l0 k y0 y1 y2) (laws_toStringS.l0 (k + 1) y0 y1 y2))
 | 0 => fun _ _ _ r h => by simp [laws_toStringS.l0] at h
 | k + 1 => by
  have ih0 := laws_toStringS.mono_l k
  ·intro y0 y1 y2
   unfold laws_toStringS.l0
   repeat' first
   | (with_reducible exact ih0 _ _ _)
   | (with_reducible exact LeO.refl _)
   | (with_reducible exact LeO.none _)
   | (with_reducible refine LeO.ite ?_ ?_)
   | (with_reducible refine LeO.bind ?_ (fun _ => ?_))
   | exact ih0 _ _ _
   | exact LeO.none _
   | refine LeO.ite ?_ ?_
   | refine LeO.bind ?_ (fun _ => ?_)
theorem laws_toStringS.mono : ∀ a0 k, LeO (laws_toStringS.f k a0) (laws_toStringS.f (k + 1) a0) := by
 intro a0 k
 have ih0 := laws_toStringS.mono_l k
 unfold laws_toStringS.f
 repeat' first
   | (with_reducible exact ih0 _ _ _)
   | (with_reducible exact LeO.refl _)
   | (with_reducible exact LeO.none _)
   | (with_reducible refine LeO.ite ?_ ?_)
   | (with_reducible refine LeO.bind ?_ (fun _ => ?_))
   | exact ih0 _ _ _
   | exact LeO.none _
   | refine LeO.ite ?_ ?_
   | refine LeO.bind ?_ (fun _ => ?_)
set_option maxHeartbeats 8000000 in
set_option maxRecDepth 100000 in
theorem laws_toStringS.calls (k : Nat) (A0 : Option Addr) (c0 : Nat) (l0 : List ByteArray) (r : List ByteArray) (w : World) (hr0 : Kd.C Kd.string w A0 l0.length l0) (hc0 : l0.length ≤ c0) (h : laws_toStringS.f k l0 = some r) :
  Calls Try.prog 51 #[.slice A0 l0.length c0] w fun e w' => ∃ v0_ : Value, e = .returned (v0_) ∧ Kd.R Kd.string 9 w' w.heap.size (fun _ => True) v0_ r ∧ Below w.heap.size w w' := by
 have HR0 := Aside0.mk hr0
 have HC0 := Aside0.mk hc0
 clear hr0 hc0
 have HB := Aside0.mk (Below.refl w.heap.size w)
 have H : (if 0 ≤ (l0.length : Int) then (if ((l0.length : Int) : Int).toNat ≤ 17592186044416 then (laws_toStringS.l0 k l0 (List.replicate ((l0.length : Int) : Int).toNat (⟨#[]⟩ : ByteArray)) 0) else (none)) else (none)) = some r := h
 clear h
 by_cases c2 : 0 ≤ (l0.length : Int)
 ·rw [if_pos c2] at H
  have c2b0 := eq_true c2
  have c2b1 : decide (0 ≤ (l0.length : Int)) = true := decide_eq_true c2
  clear c2
  by_cases c3 : ((l0.length : Int) : Int).toNat ≤ 17592186044416
  ·rw [if_pos c3] at H
   have c3b0 := eq_true c3
   have c3b1 : decide (((l0.length : Int) : Int).toNat ≤ 17592186044416) = true := decide_eq_true c3
   clear c3
   obtain ⟨y152, hy152⟩ : ∃ y_ : List ByteArray, y_ = (List.replicate ((l0.length : Int) : Int).toNat (⟨#[]⟩ : ByteArray)) := ⟨_, rfl⟩
   replace H : (laws_toStringS.l0 k l0 y152 0) = some r := by first | (rw [hy152]; with_reducible exact H) | (have H2_ := (Option.bind_some _ _).symm.trans H; rw [hy152]; with_reducible exact H2_) | (have H2_ := (Option.bind_some _ _).symm.trans H; with_reducible exact H2_) | with_reducible exact H | (rw [hy152]; exact H) | exact H
   have Ny152 := Aside0.mk hy152
   clear hy152
   have H' := Aside0.mk H
   clear H
   go_enter Try.func51, Try.ntmps51
   go_wp2_with (first | ((with_reducible refine gate_dst (N := 7) rfl ?_); refine Kd.R_make Kd.string _ 9 rfl (N := 7) rfl 38 _ _ rfl (l0.length : Int) rfl rfl Try.underlying38 (.string ⟨#[]⟩) 16 info9 rfl (by decide) (by omega) (⟨#[]⟩ : ByteArray) (ok := fun _ => True) (okp := fun _ => True) rfl (fun _ hk => hk) trivial (of_decide_eq_true (by first | (with_reducible assumption) | assumption)) (Nat.le_trans (Nat.mul_le_mul_right _ (of_decide_eq_true (by first | (with_reducible assumption) | assumption) : (l0.length : Int).toNat ≤ 17592186044416)) (by omega)) (Below.refl _ _) (Nat.le_refl _) ?_; intro v153 w4 ho5 hb hg_ hnew_; clear hg_ hnew_; (first | rw [← Ny152.out] at ho5 | (simp only [Int.reduceToNat] at ho5; rw [← Ny152.out] at ho5)); have n0_ := Aside0.mk (Kd.R_lower ho5 (below_size qB)); have n1_ := Aside0.mk (below_step qB hb); clear HB; have HO154 := n0_; have HB := n1_; clear n0_ n1_; clear hb ho5))
   go_loopg [4] k (fun kq v4 w' => ∃ (x3_1 : List ByteArray) (x4_1 : Int), v4 = .int .i64 x4_1 ∧ Aside0 (laws_toStringS.l0 kq l0 x3_1 x4_1 = some r) ∧ Aside0 (kq ≤ k) ∧ Aside0 (Kd.R Kd.string 9 w' w.heap.size (fun _ => True) v153 x3_1) ∧ Aside0 (Below w.heap.size w w'))
   case atStart => exact ⟨(y152), (0), (by first | rfl | (simp; done) | (simp [*]; done)), H', ⟨Nat.le_refl _⟩, ⟨by (with_reducible repeat (first | apply Kd.R_alloc | apply Kd.R_drewN | apply Kd.R_drew)); exact HO154.out⟩, ⟨by repeat (first | (with_reducible first | exact HB.out | apply below_alloc | apply pw_below_drewN | apply below_drew1) | exact HB.out)⟩⟩
   case round =>
    clear H'
    try clear c2
    try clear c2b0
    try clear c2b1
    try clear p2
    try clear c3
    try clear c3b0
    try clear c3b1
    try clear c5
    obtain ⟨x3_1, x4_1, rfl, HA, HK1, HO_3, HB⟩ := hrel
    cases gk with
    | zero => exact absurd HA.out (by simp [laws_toStringS.l0])
    | succ k1 =>
     have H := HA.out
     clear HA
     simp only [laws_toStringS.l0] at H
     by_cases c6 : x4_1 < (l0.length : Int)
     ·rw [if_pos c6] at H
      have c6b0 : decide (x4_1 < (l0.length : Int)) = true := decide_eq_true c6
      clear c6
      by_cases c7 : 0 ≤ x4_1
      ·rw [if_pos c7] at H
       have c7b0 : decide (0 ≤ x4_1) = true := decide_eq_true c7
       clear c7
       by_cases c8 : x4_1 < (x3_1.length : Int)
       ·rw [if_pos c8] at H
        have c8b0 : decide (x4_1 < (x3_1.length : Int)) = true := decide_eq_true c8
        clear c8
        obtain ⟨y156, hy156⟩ : ∃ y_ : List ByteArray, y_ = (x3_1.set (x4_1 : Int).toNat (rdOf ByteArray.empty l0 x4_1)) := ⟨_, rfl⟩
        replace H : (laws_toStringS.l0 k1 l0 y156 (wrap64 (x4_1 + 1))) = some r := by first | (rw [hy156]; with_reducible exact H) | (have H2_ := (Option.bind_some _ _).symm.trans H; rw [hy156]; with_reducible exact H2_) | (have H2_ := (Option.bind_some _ _).symm.trans H; with_reducible exact H2_) | with_reducible exact H | (rw [hy156]; exact H) | exact H
        have Ny156 := Aside0.mk hy156
        clear hy156
        have H' := Aside0.mk H
        clear H
        have p155 : 0 ≤ (x4_1 : Int) := of_decide_eq_true (by first | (with_reducible assumption) | assumption)
        have q155 : x4_1 < (l0.length : Int) := of_decide_eq_true (by first | (with_reducible assumption) | assumption)
        obtain ⟨ad155, e155, hx155_0⟩ := Kd.at_string HR0.out x4_1 p155 q155
        cases e155
        replace hx155_0 := (HB.out.cell (World.block_lt_of_cell? w _ hx155_0)).trans hx155_0
        replace p155 := eq_true p155
        replace q155 := eq_true q155
        have p9 : 0 ≤ (x4_1 : Int) := of_decide_eq_true (by first | (with_reducible assumption) | assumption)
        have q9 : (x4_1 : Int) < ((x3_1.length : Int) : Int) := of_decide_eq_true (by first | (with_reducible assumption) | assumption)
        obtain ⟨go9, co9, eo9, gb9, gl9, cl9, HG9⟩ := Kd.R_form HO_3.out (by omega)
        (first | cases eo9 | (injection eo9 with ea_ en_ ec_; (first | subst ea_ | (injection ea_ with ea_; subst ea_)); subst ec_; clear en_))
        have GB9 := Aside0.mk gb9
        have GG9 := Aside0.mk HG9
        clear gb9 gl9 HG9
        obtain ⟨hx9_0, hf9_0⟩ := Kd.R_celln (⟨#[]⟩ : ByteArray) HO_3.out (x4_1 : Int) p9 q9
        replace p9 := eq_true p9
        replace q9 := eq_true q9
        have HP10 := Kd.R_putg HO_3.out (x4_1 : Int) (rdOf ByteArray.empty l0 x4_1)
        go_wp2_with (first | ((with_reducible refine gate_store (t := 9) (p := 20) rfl ?_); refine store_event (t := 9) (p := 20) (v := ?vo_w11) (w1 := (wr.setCell ⟨go9, (x4_1 : Int).toNat, none⟩ (.string (rdOf ByteArray.empty l0 x4_1)))) ?hg ?ho ?hn ?hr ?_; (case ho => rfl); (case hg => rfl); (case hn => rfl); (case hr => first | (go_simp; done) | (go_simp; rfl)); intro w11 hw; have hg : wr.grownBy w11 (some go9) := (by rw [hw]; exact HP10.2); have hp_ : Kd.R Kd.string 9 w11 w.heap.size (fun _ => True) (.slice (some ⟨go9, 0, none⟩) x3_1.length co9) y156 := (by rw [hw, Ny156.out]; exact HP10.1); clear HP10; have n0_ := Aside0.mk (hp_); have n1_ := Aside0.mk ((by rw [hw]; exact below_set (HB.out) GB9.out : Below w.heap.size w w11)); clear HO_3; clear HB; have HO_3 := n0_; have HB := n1_; clear n0_ n1_; clear hg hw hp_))
        go_roundg k1
        case measure => have := HK1.out; omega
        case rel => exact ⟨(y156), (wrap64 (x4_1 + 1)), (by first | rfl | (simp; done) | (simp [*]; done)), H', ⟨by have := HK1.out; omega⟩, ⟨by (with_reducible repeat (first | apply Kd.R_alloc | apply Kd.R_drewN | apply Kd.R_drew)); exact HO_3.out⟩, ⟨by repeat (first | (with_reducible first | exact HB.out | apply below_alloc | apply pw_below_drewN | apply below_drew1) | exact HB.out)⟩⟩
       ·rw [if_neg c8] at H
        exact absurd H (by simp)
      ·rw [if_neg c7] at H
       exact absurd H (by simp)
     ·rw [if_neg c6] at H
      have c6b0 : decide (x4_1 < (l0.length : Int)) = false := decide_eq_false c6
      clear c6
      obtain rfl := Option.some.inj H
      go_wp2
      go_ret
      exact ⟨_, by first | rfl | (simp [errW_none, errW_some] <;> rfl) | (simp [*, errW_none, errW_some] <;> rfl), by (with_reducible repeat (first | apply Kd.R_alloc | apply Kd.R_drewN | apply Kd.R_drew)); exact HO_3.out, by repeat (first | (with_reducible first | exact HB.out | apply below_alloc | apply pw_below_drewN | apply below_drew1) | exact HB.out)⟩
  ·rw [if_neg c3] at H
   exact absurd H (by simp)
 ·rw [if_neg c2] at H
  exact absurd H (by simp)

/-! ### laws_toPair: function 70 -/
def laws_toPair.f (a0_0 : ByteArray) (a0_1 : ByteArray) : Option (ByteArray × ByteArray) := some (a0_0, a0_1)
set_option maxHeartbeats 8000000 in
set_option maxRecDepth 100000 in
theorem laws_toPair.calls (a0_0 : ByteArray) (a0_1 : ByteArray) (r1 : ByteArray) (r2 : ByteArray) (w : World) (h : laws_toPair.f a0_0 a0_1 = some (r1, r2)) :
  Calls Try.prog 70 #[.agg #[.string a0_0, .string a0_1]] w fun e w' => e = .returned (.agg #[.string r1, .string r2]) ∧ Below w.heap.size w w' := by
 have hu102 := Try.underlying102
 have hu73 := Try.underlying73
 have HB := Aside0.mk (Below.refl w.heap.size w)
 have H : (some (a0_0, a0_1)) = some (r1, r2) := h
 clear h
 simp only [Option.some.injEq, Prod.mk.injEq] at H
 obtain ⟨rfl, rfl⟩ := H
 go_enter Try.func70, Try.ntmps70
 go_wp2_with (first | ((with_reducible refine gate_dst (N := 1) rfl ?_); refine box_event ?hg (N := 1) ?hd (cs := #[.string a0_0, .string a0_1]) (t := 102) ?hr ?_; (case hd => rfl); (case hg => rfl); (case hr => first | (go_simp; done) | (go_simp; rfl)); intro gb157 hg w2 hbox hb; have n0_ := Aside0.mk (below_step qB hb); have n1_ := Aside0.mk (hbox); have n2_ := Aside0.mk ((by rw [hg]; exact (below_size qB) : w.heap.size ≤ gb157)); have n3_ := Aside0.mk ((by rw [hg]; exact (below_size qB) : w.heap.size ≤ gb157)); clear HB; have HB := n0_; have BK157 := n1_; have GW157 := n2_; have GE157 := n3_; clear n0_ n1_ n2_ n3_; clear hb hbox hg) | ((with_reducible refine gate_dst (N := 2) rfl ?_); refine box_event ?hg (N := 2) ?hd (cs := #[.string (⟨#[]⟩ : ByteArray), .string (⟨#[]⟩ : ByteArray)]) (t := 73) ?hr ?_; (case hd => rfl); (case hg => rfl); (case hr => first | (go_simp; done) | (go_simp; rfl)); intro gb158 hg w3 hbox hb; have n0_ := Aside0.mk (blk_below (g := gb157) (qK BK157.out) hb); have n1_ := Aside0.mk (below_step (qG GE157.out) hb); have n2_ := Aside0.mk (hbox); have n3_ := Aside0.mk ((by rw [hg]; exact (below_size (qG GE157.out)) : w.heap.size ≤ gb158)); have n4_ := Aside0.mk ((by rw [hg]; exact (below_size (qG GE157.out)) : w.heap.size ≤ gb158)); have n5_ := Aside0.mk ((by rw [hg]; exact Nat.ne_of_lt (blk_lt (g := gb157) (qK BK157.out)) : gb157 ≠ gb158)); have n6_ := Aside0.mk ((by rw [hg]; exact Nat.ne_of_gt (blk_lt (g := gb157) (qK BK157.out)) : gb158 ≠ gb157)); clear BK157; clear HB; have BK157 := n0_; have HB := n1_; have BK158 := n2_; have GW158 := n3_; have GE158 := n4_; have NB157_158 := n5_; have NB158_157 := n6_; clear n0_ n1_ n2_ n3_ n4_ n5_ n6_; clear hb hbox hg) | ((with_reducible refine gate_dst (N := 3) rfl ?_); refine box_event ?hg (N := 3) ?hd (cs := #[.string (⟨#[]⟩ : ByteArray), .string (⟨#[]⟩ : ByteArray)]) (t := 73) ?hr ?_; (case hd => rfl); (case hg => rfl); (case hr => first | (go_simp; done) | (go_simp; rfl)); intro gb159 hg w4 hbox hb; have n0_ := Aside0.mk (blk_below (g := gb157) (qK BK157.out) hb); have n1_ := Aside0.mk (blk_below (g := gb158) (qK BK158.out) hb); have n2_ := Aside0.mk (below_step (qH GE157.out GE158.out) hb); have n3_ := Aside0.mk (hbox); have n4_ := Aside0.mk ((by rw [hg]; exact (below_size (qH GE157.out GE158.out)) : w.heap.size ≤ gb159)); have n5_ := Aside0.mk ((by rw [hg]; exact (below_size (qH GE157.out GE158.out)) : w.heap.size ≤ gb159)); have n6_ := Aside0.mk ((by rw [hg]; exact Nat.ne_of_lt (blk_lt (g := gb157) (qK BK157.out)) : gb157 ≠ gb159)); have n7_ := Aside0.mk ((by rw [hg]; exact Nat.ne_of_gt (blk_lt (g := gb157) (qK BK157.out)) : gb159 ≠ gb157)); have n8_ := Aside0.mk ((by rw [hg]; exact Nat.ne_of_lt (blk_lt (g := gb158) (qK BK158.out)) : gb158 ≠ gb159)); have n9_ := Aside0.mk ((by rw [hg]; exact Nat.ne_of_gt (blk_lt (g := gb158) (qK BK158.out)) : gb159 ≠ gb158)); clear BK157; clear BK158; clear HB; have BK157 := n0_; have BK158 := n1_; have HB := n2_; have BK159 := n3_; have GW159 := n4_; have GE159 := n5_; have NB157_159 := n6_; have NB159_157 := n7_; have NB158_159 := n8_; have NB159_158 := n9_; clear n0_ n1_ n2_ n3_ n4_ n5_ n6_ n7_ n8_ n9_; clear hb hbox hg; have hnb5 := NB157_158.out; have hnc5 := NB158_157.out; have hnb6 := NB157_159.out; have hnc6 := NB159_157.out; have hcz7_0 : w4.cell? ⟨gb157, 0, none⟩ = some (.string a0_0) := (blk_cell BK157.out 0).trans rfl; have hcz7_1 : w4.cell? ⟨gb157, 1, none⟩ = some (.string a0_1) := (blk_cell BK157.out 1).trans rfl; have hfz7_0 := blk_frozen BK157.out 0; have hfz7_1 := blk_frozen BK157.out 1; have hnb8 := NB159_158.out; have hnc8 := NB158_159.out; have hcz9_0 : w4.cell? ⟨gb159, 0, none⟩ = some (.string (⟨#[]⟩ : ByteArray)) := (blk_cell BK159.out 0).trans rfl; have hcz9_1 : w4.cell? ⟨gb159, 1, none⟩ = some (.string (⟨#[]⟩ : ByteArray)) := (blk_cell BK159.out 1).trans rfl; have hfz9_0 := blk_frozen BK159.out 0; have hfz9_1 := blk_frozen BK159.out 1; have hcz10_0 : w4.cell? ⟨gb158, 0, none⟩ = some (.string (⟨#[]⟩ : ByteArray)) := (blk_cell BK158.out 0).trans rfl; have hcz10_1 : w4.cell? ⟨gb158, 1, none⟩ = some (.string (⟨#[]⟩ : ByteArray)) := (blk_cell BK158.out 1).trans rfl; have hfz10_0 := blk_frozen BK158.out 0; have hfz10_1 := blk_frozen BK158.out 1))
 refine bodyPost_ret (results_cell_row rfl _ _ gb158 73 #[.string a0_0, .string a0_1] (0, 0) _ rfl (by (with_reducible repeat (first | refine blk_drewN ?_ _ | refine blk_drew ?_ | refine blk_alloc ?_ _)); refine blk_put (cs := #[.string a0_0, .string (⟨#[]⟩ : ByteArray)]) ?_ 1 _ rfl; (with_reducible repeat (first | refine blk_drewN ?_ _ | refine blk_drew ?_ | refine blk_alloc ?_ _)); refine blk_put (cs := #[.string (⟨#[]⟩ : ByteArray), .string (⟨#[]⟩ : ByteArray)]) ?_ 0 _ rfl; (with_reducible repeat (first | refine blk_drewN ?_ _ | refine blk_drew ?_ | refine blk_alloc ?_ _)); refine blk_far ?_ NB158_159.out _; (with_reducible repeat (first | refine blk_drewN ?_ _ | refine blk_drew ?_ | refine blk_alloc ?_ _)); refine blk_far ?_ NB158_159.out _; (with_reducible repeat (first | refine blk_drewN ?_ _ | refine blk_drew ?_ | refine blk_alloc ?_ _)); exact BK158.out) Try.underlying73 rfl (by kernel_rfl)) rfl ?_
 exact ⟨by first | rfl | (simp [errW_none, errW_some] <;> rfl) | (simp [*, errW_none, errW_some] <;> rfl), by repeat (first | (with_reducible first | exact HB.out | apply below_alloc | apply pw_below_drewN | apply below_drew1 | refine below_set ?_ GE157.out | refine below_set ?_ GE158.out | refine below_set ?_ GE159.out) | exact HB.out)⟩

/-! ### laws_toPairS: function 52 -/
def laws_toPairS.l0 : Nat → List (S102) → List (S73) → Int → Option ((List (S73)))
 | 0, _, _, _ => none
 | k + 1, x0, x3, x4 => if x4 < (x0.length : Int) then (if 0 ≤ x4 then ((laws_toPair.f ((rd_T102 x0 x4).f0) ((rd_T102 x0 x4).f1)).bind fun bt164 => (if x4 < (x3.length : Int) then (laws_toPairS.l0 k x0 (x3.set (x4 : Int).toNat (⟨bt164.1, bt164.2⟩ : S73)) (wrap64 (x4 + 1))) else (none))) else (none)) else (some x3)
def laws_toPairS.f (k : Nat) (l0 : List (S102)) : Option ((List (S73))) := if 0 ≤ (l0.length : Int) then (if ((l0.length : Int) : Int).toNat ≤ 8796093022208 then (laws_toPairS.l0 k l0 (List.replicate ((l0.length : Int) : Int).toNat z73) 0) else (none)) else (none)
theorem laws_toPairS.mono_l : ∀ k, (∀ y0 y1 y2, LeO (laws_toPairS.l0 k y0 y1 y2) (laws_toPairS.l0 (k + 1) y0 y1 y2))
 | 0 => fun _ _ _ r h => by simp [laws_toPairS.l0] at h
 | k + 1 => by
  have ih0 := laws_toPairS.mono_l k
  ·intro y0 y1 y2
   unfold laws_toPairS.l0
   repeat' first
   | (with_reducible exact ih0 _ _ _)
   | (with_reducible exact LeO.refl _)
   | (with_reducible exact LeO.none _)
   | (with_reducible refine LeO.ite ?_ ?_)
   | (with_reducible refine LeO.bind ?_ (fun _ => ?_))
   | exact ih0 _ _ _
   | exact LeO.none _
   | refine LeO.ite ?_ ?_
   | refine LeO.bind ?_ (fun _ => ?_)
theorem laws_toPairS.mono : ∀ a0 k, LeO (laws_toPairS.f k a0) (laws_toPairS.f (k + 1) a0) := by
 intro a0 k
 have ih0 := laws_toPairS.mono_l k
 unfold laws_toPairS.f
 repeat' first
   | (with_reducible exact ih0 _ _ _)
   | (with_reducible exact LeO.refl _)
   | (with_reducible exact LeO.none _)
   | (with_reducible refine LeO.ite ?_ ?_)
   | (with_reducible refine LeO.bind ?_ (fun _ => ?_))
   | exact ih0 _ _ _
   | exact LeO.none _
   | refine LeO.ite ?_ ?_
   | refine LeO.bind ?_ (fun _ => ?_)
set_option maxHeartbeats 8000000 in
set_option maxRecDepth 100000 in
theorem laws_toPairS.calls (k : Nat) (A0 : Option Addr) (c0 : Nat) (l0 : List (S102)) (r : List (S73)) (w : World) (hr0 : Kd.C k102 w A0 l0.length l0) (hc0 : l0.length ≤ c0) (h : laws_toPairS.f k l0 = some r) :
  Calls Try.prog 52 #[.slice A0 l0.length c0] w fun e w' => ∃ v0_ : Value, e = .returned (v0_) ∧ Kd.R k73 73 w' w.heap.size (fun _ => True) v0_ r ∧ Below w.heap.size w w' := by
 have hu102 := Try.underlying102
 have hu73 := Try.underlying73
 have HR0 := Aside0.mk hr0
 have HC0 := Aside0.mk hc0
 clear hr0 hc0
 have HB := Aside0.mk (Below.refl w.heap.size w)
 have H : (if 0 ≤ (l0.length : Int) then (if ((l0.length : Int) : Int).toNat ≤ 8796093022208 then (laws_toPairS.l0 k l0 (List.replicate ((l0.length : Int) : Int).toNat z73) 0) else (none)) else (none)) = some r := h
 clear h
 by_cases c2 : 0 ≤ (l0.length : Int)
 ·rw [if_pos c2] at H
  have c2b0 := eq_true c2
  have c2b1 : decide (0 ≤ (l0.length : Int)) = true := decide_eq_true c2
  clear c2
  by_cases c3 : ((l0.length : Int) : Int).toNat ≤ 8796093022208
  ·rw [if_pos c3] at H
   have c3b0 := eq_true c3
   have c3b1 : decide (((l0.length : Int) : Int).toNat ≤ 8796093022208) = true := decide_eq_true c3
   clear c3
   obtain ⟨y160, hy160⟩ : ∃ y_ : List (S73), y_ = (List.replicate ((l0.length : Int) : Int).toNat z73) := ⟨_, rfl⟩
   replace H : (laws_toPairS.l0 k l0 y160 0) = some r := by first | (rw [hy160]; with_reducible exact H) | (have H2_ := (Option.bind_some _ _).symm.trans H; rw [hy160]; with_reducible exact H2_) | (have H2_ := (Option.bind_some _ _).symm.trans H; with_reducible exact H2_) | with_reducible exact H | (rw [hy160]; exact H) | exact H
   have Ny160 := Aside0.mk hy160
   clear hy160
   have H' := Aside0.mk H
   clear H
   go_enter Try.func52, Try.ntmps52
   go_wp2_with (first | ((with_reducible refine gate_dst (N := 7) rfl ?_); refine Kd.R_make k73 _ 73 rfl (N := 7) rfl 45 _ _ rfl (l0.length : Int) rfl rfl Try.underlying45 (.agg #[(.string ⟨#[]⟩), (.string ⟨#[]⟩)]) 32 info73 rfl (by decide) (by omega) z73 (ok := fun _ => True) (okp := fun _ => True) (k73_mkM _ _ _ z73 ) (fun _ hk => hk) trivial (of_decide_eq_true (by first | (with_reducible assumption) | assumption)) (Nat.le_trans (Nat.mul_le_mul_right _ (of_decide_eq_true (by first | (with_reducible assumption) | assumption) : (l0.length : Int).toNat ≤ 8796093022208)) (by omega)) (Below.refl _ _) (Nat.le_refl _) ?_; intro v161 w4 ho5 hb hg_ hnew_; clear hg_ hnew_; (first | rw [← Ny160.out] at ho5 | (simp only [Int.reduceToNat] at ho5; rw [← Ny160.out] at ho5)); have n0_ := Aside0.mk (Kd.R_lower ho5 (below_size qB)); have n1_ := Aside0.mk (below_step qB hb); clear HB; have HO162 := n0_; have HB := n1_; clear n0_ n1_; clear hb ho5))
   go_loopg [4] k (fun kq v4 w' => ∃ (x3_1 : List (S73)) (x4_1 : Int), v4 = .int .i64 x4_1 ∧ Aside0 (laws_toPairS.l0 kq l0 x3_1 x4_1 = some r) ∧ Aside0 (kq ≤ k) ∧ Aside0 (Kd.R k73 73 w' w.heap.size (fun _ => True) v161 x3_1) ∧ Aside0 (Below w.heap.size w w'))
   case atStart => exact ⟨(y160), (0), (by first | rfl | (simp; done) | (simp [*]; done)), H', ⟨Nat.le_refl _⟩, ⟨by (with_reducible repeat (first | apply Kd.R_alloc | apply Kd.R_drewN | apply Kd.R_drew)); exact HO162.out⟩, ⟨by repeat (first | (with_reducible first | exact HB.out | apply below_alloc | apply pw_below_drewN | apply below_drew1) | exact HB.out)⟩⟩
   case round =>
    clear H'
    try clear c2
    try clear c2b0
    try clear c2b1
    try clear p2
    try clear c3
    try clear c3b0
    try clear c3b1
    try clear c5
    obtain ⟨x3_1, x4_1, rfl, HA, HK1, HO_3, HB⟩ := hrel
    cases gk with
    | zero => exact absurd HA.out (by simp [laws_toPairS.l0])
    | succ k1 =>
     have H := HA.out
     clear HA
     simp only [laws_toPairS.l0] at H
     by_cases c6 : x4_1 < (l0.length : Int)
     ·rw [if_pos c6] at H
      have c6b0 : decide (x4_1 < (l0.length : Int)) = true := decide_eq_true c6
      clear c6
      by_cases c7 : 0 ≤ x4_1
      ·rw [if_pos c7] at H
       have c7b0 : decide (0 ≤ x4_1) = true := decide_eq_true c7
       clear c7
       replace H := Option.bind_eq_some_iff.mp H
       obtain ⟨⟨t164, t165⟩, A80, H⟩ := H
       replace H : (if x4_1 < (x3_1.length : Int) then (laws_toPairS.l0 k1 l0 (x3_1.set (x4_1 : Int).toNat (⟨t164, t165⟩ : S73)) (wrap64 (x4_1 + 1))) else (none)) = some r := H
       have A8 := Aside0.mk A80
       clear A80
       by_cases c9 : x4_1 < (x3_1.length : Int)
       ·rw [if_pos c9] at H
        have c9b0 : decide (x4_1 < (x3_1.length : Int)) = true := decide_eq_true c9
        clear c9
        obtain ⟨y166, hy166⟩ : ∃ y_ : List (S73), y_ = (x3_1.set (x4_1 : Int).toNat (⟨t164, t165⟩ : S73)) := ⟨_, rfl⟩
        replace H : (laws_toPairS.l0 k1 l0 y166 (wrap64 (x4_1 + 1))) = some r := by first | (rw [hy166]; with_reducible exact H) | (have H2_ := (Option.bind_some _ _).symm.trans H; rw [hy166]; with_reducible exact H2_) | (have H2_ := (Option.bind_some _ _).symm.trans H; with_reducible exact H2_) | with_reducible exact H | (rw [hy166]; exact H) | exact H
        have Ny166 := Aside0.mk hy166
        clear hy166
        have H' := Aside0.mk H
        clear H
        have p163 : 0 ≤ (x4_1 : Int) := of_decide_eq_true (by first | (with_reducible assumption) | assumption)
        have q163 : x4_1 < (l0.length : Int) := of_decide_eq_true (by first | (with_reducible assumption) | assumption)
        obtain ⟨ad163, e163, hx163_0, hx163_1⟩ := at_T102 HR0.out x4_1 p163 q163
        cases e163
        replace hx163_0 := (HB.out.cell (World.block_lt_of_cell? w _ hx163_0)).trans hx163_0
        replace hx163_1 := (HB.out.cell (World.block_lt_of_cell? w _ hx163_1)).trans hx163_1
        replace p163 := eq_true p163
        replace q163 := eq_true q163
        go_wp2_with (first | ((with_reducible refine gate_callee (f := 70) rfl ?_); refine goesL_ (some 20) rfl rfl Try.func70 (by kernel_rfl) rfl #[.agg #[.string ((rd_T102 l0 x4_1).f0), .string ((rd_T102 l0 x4_1).f1)]] rfl (by (try simp only [List.map_toArray, List.map_cons, List.map_nil]); first | done | rfl | (simp only [List.length_drop, List.length_take]; rfl)) ?_; (with_reducible refine (laws_toPair.calls ((rd_T102 l0 x4_1).f0) ((rd_T102 l0 x4_1).f1) t164 t165 _ A8.out).mono ?_); rintro e w11 ⟨rfl, hb⟩; refine ⟨_, rfl, ?_⟩; have n0_ := Aside0.mk (Kd.R_below (by (with_reducible repeat (first | apply Kd.R_alloc | apply Kd.R_drewN | apply Kd.R_drew)); exact HO_3.out) hb); have n1_ := Aside0.mk (below_step qB hb); clear HO_3; clear HB; have HO_3 := n0_; have HB := n1_; clear n0_ n1_; (try clear hb); (try clear hb2); (try clear hk); (try clear hi); have p10 : 0 ≤ (x4_1 : Int) := of_decide_eq_true (by first | (with_reducible assumption) | assumption); have q10 : (x4_1 : Int) < ((x3_1.length : Int) : Int) := of_decide_eq_true (by first | (with_reducible assumption) | assumption); obtain ⟨go10, co10, eo10, gb10, gl10, cl10, HG10⟩ := Kd.R_form HO_3.out (by omega); (first | cases eo10 | (injection eo10 with ea_ en_ ec_; (first | subst ea_ | (injection ea_ with ea_; subst ea_)); subst ec_; clear en_)); have GB10 := Aside0.mk gb10; have GG10 := Aside0.mk HG10; clear gb10 gl10 HG10; obtain ⟨ce10, hcl10, hM10, hcc10, hfr10⟩ := Kd.R_elem HO_3.out z73 (x4_1 : Int) p10 q10; obtain rfl := k73_openM hM10; have hx10_0 : w11.cell? ⟨go10, (x4_1 : Int).toNat * 2, none⟩ = some (.string ((rd_T73 x3_1 x4_1).f0)) := hcc10 0 _ rfl; have hx10_1 : w11.cell? ⟨go10, (x4_1 : Int).toNat * 2 + 1, none⟩ = some (.string ((rd_T73 x3_1 x4_1).f1)) := hcc10 1 _ rfl; have hf10_0 : w11.frozen? ⟨go10, (x4_1 : Int).toNat * 2, none⟩ = false := hfr10 0; have hf10_1 : w11.frozen? ⟨go10, (x4_1 : Int).toNat * 2 + 1, none⟩ = false := hfr10 1; clear hcl10 hcc10 hfr10 hM10; replace p10 := eq_true p10; replace q10 := eq_true q10; have HX12 := Aside0.mk (show Kd.R k73 73 w11 w.heap.size (fun _ => True) (.slice (some ⟨go10, 0, none⟩) x3_1.length co10) x3_1 from (by (with_reducible repeat (first | apply Kd.R_alloc | apply Kd.R_drewN | apply Kd.R_drew)); exact HO_3.out)); obtain ⟨ce12, hcl12, hM12, hcc12, hfr12⟩ := Kd.R_elem HX12.out z73 (x4_1 : Int) (of_decide_eq_true (by first | (with_reducible assumption) | assumption)) (by have h_ : (x4_1 : Int) < ((x3_1.length : Int) : Int) := of_decide_eq_true (by first | (with_reducible assumption) | assumption); first | exact h_ | (have e_ := (Kd.R_reads' HO_3.out).1; omega) | simpa using h_); obtain rfl := k73_openM hM12; have HP12 := Kd.R_seg HX12.out (x4_1 : Int) (of_decide_eq_true (by first | (with_reducible assumption) | assumption)) (by have h_ : (x4_1 : Int) < ((x3_1.length : Int) : Int) := of_decide_eq_true (by first | (with_reducible assumption) | assumption); first | exact h_ | (have e_ := (Kd.R_reads' HO_3.out).1; omega) | simpa using h_) (seg := [.string t164, .string t165]) (j := 0) hcl12 hcc12 (show 2 ≤ 2 from by decide) (x' := (⟨t164, t165⟩ : S73)) (k73_mkM _ _ _ (⟨t164, t165⟩ : S73) ) (fun _ hk => hk); have hx12_0 := hcc12 0 _ rfl; (try simp only [show (k73).sz = 2 from rfl, Nat.mul_one, Nat.add_zero] at hx12_0); have hf12_0 := hfr12 0; (try simp only [show (k73).sz = 2 from rfl, Nat.mul_one, Nat.add_zero] at hf12_0); have hx12_1 := hcc12 1 _ rfl; (try simp only [show (k73).sz = 2 from rfl, Nat.mul_one, Nat.add_zero] at hx12_1); have hf12_1 := hfr12 1; (try simp only [show (k73).sz = 2 from rfl, Nat.mul_one, Nat.add_zero] at hf12_1); clear hcl12 hcc12 hfr12 hM12) | ((with_reducible refine gate_store (t := 73) (p := 21) rfl ?_); refine store_event (t := 73) (p := 21) (v := ?vo_w13) (w1 := ((w11.setCell ⟨go10, (x4_1 : Int).toNat * 2, none⟩ (.string t164)).setCell ⟨go10, (x4_1 : Int).toNat * 2 + 1, none⟩ (.string t165))) ?hg ?ho ?hn ?hr ?_; (case ho => rfl); (case hg => rfl); (case hn => rfl); (case hr => first | (go_simp; done) | (go_simp; rfl)); intro w13 hw; have hg : w11.grownBy w13 (some go10) := (by rw [hw]; exact HP12.2); have hp_ : Kd.R k73 73 w13 w.heap.size (fun _ => True) (.slice (some ⟨go10, 0, none⟩) x3_1.length co10) y166 := (by rw [hw, Ny166.out]; exact HP12.1); clear HP12; have n0_ := Aside0.mk (hp_); have n1_ := Aside0.mk ((by rw [hw]; exact below_set (below_set (HB.out) GB10.out) GB10.out : Below w.heap.size w w13)); clear HO_3; clear HB; have HO_3 := n0_; have HB := n1_; clear n0_ n1_; clear hg hw hp_))
        go_roundg k1
        case measure => have := HK1.out; omega
        case rel => exact ⟨(y166), (wrap64 (x4_1 + 1)), (by first | rfl | (simp; done) | (simp [*]; done)), H', ⟨by have := HK1.out; omega⟩, ⟨by (with_reducible repeat (first | apply Kd.R_alloc | apply Kd.R_drewN | apply Kd.R_drew)); exact HO_3.out⟩, ⟨by repeat (first | (with_reducible first | exact HB.out | apply below_alloc | apply pw_below_drewN | apply below_drew1) | exact HB.out)⟩⟩
       ·rw [if_neg c9] at H
        exact absurd H (by simp)
      ·rw [if_neg c7] at H
       exact absurd H (by simp)
     ·rw [if_neg c6] at H
      have c6b0 : decide (x4_1 < (l0.length : Int)) = false := decide_eq_false c6
      clear c6
      obtain rfl := Option.some.inj H
      go_wp2
      go_ret
      exact ⟨_, by first | rfl | (simp [errW_none, errW_some] <;> rfl) | (simp [*, errW_none, errW_some] <;> rfl), by (with_reducible repeat (first | apply Kd.R_alloc | apply Kd.R_drewN | apply Kd.R_drew)); exact HO_3.out, by repeat (first | (with_reducible first | exact HB.out | apply below_alloc | apply pw_below_drewN | apply below_drew1) | exact HB.out)⟩
  ·rw [if_neg c3] at H
   exact absurd H (by simp)
 ·rw [if_neg c2] at H
  exact absurd H (by simp)

/-! ### laws_toUses: function 71 -/
def laws_toUses.f (a0_0 : ByteArray) (a0_1 : ByteArray) : Option (ByteArray × ByteArray) := some (a0_0, a0_1)
set_option maxHeartbeats 8000000 in
set_option maxRecDepth 100000 in
theorem laws_toUses.calls (a0_0 : ByteArray) (a0_1 : ByteArray) (r1 : ByteArray) (r2 : ByteArray) (w : World) (h : laws_toUses.f a0_0 a0_1 = some (r1, r2)) :
  Calls Try.prog 71 #[.agg #[.string a0_0, .string a0_1]] w fun e w' => e = .returned (.agg #[.string r1, .string r2]) ∧ Below w.heap.size w w' := by
 have hu104 := Try.underlying104
 have hu75 := Try.underlying75
 have HB := Aside0.mk (Below.refl w.heap.size w)
 have H : (some (a0_0, a0_1)) = some (r1, r2) := h
 clear h
 simp only [Option.some.injEq, Prod.mk.injEq] at H
 obtain ⟨rfl, rfl⟩ := H
 go_enter Try.func71, Try.ntmps71
 go_wp2_with (first | ((with_reducible refine gate_dst (N := 1) rfl ?_); refine box_event ?hg (N := 1) ?hd (cs := #[.string a0_0, .string a0_1]) (t := 104) ?hr ?_; (case hd => rfl); (case hg => rfl); (case hr => first | (go_simp; done) | (go_simp; rfl)); intro gb167 hg w2 hbox hb; have n0_ := Aside0.mk (below_step qB hb); have n1_ := Aside0.mk (hbox); have n2_ := Aside0.mk ((by rw [hg]; exact (below_size qB) : w.heap.size ≤ gb167)); have n3_ := Aside0.mk ((by rw [hg]; exact (below_size qB) : w.heap.size ≤ gb167)); clear HB; have HB := n0_; have BK167 := n1_; have GW167 := n2_; have GE167 := n3_; clear n0_ n1_ n2_ n3_; clear hb hbox hg) | ((with_reducible refine gate_dst (N := 2) rfl ?_); refine box_event ?hg (N := 2) ?hd (cs := #[.string (⟨#[]⟩ : ByteArray), .string (⟨#[]⟩ : ByteArray)]) (t := 75) ?hr ?_; (case hd => rfl); (case hg => rfl); (case hr => first | (go_simp; done) | (go_simp; rfl)); intro gb168 hg w3 hbox hb; have n0_ := Aside0.mk (blk_below (g := gb167) (qK BK167.out) hb); have n1_ := Aside0.mk (below_step (qG GE167.out) hb); have n2_ := Aside0.mk (hbox); have n3_ := Aside0.mk ((by rw [hg]; exact (below_size (qG GE167.out)) : w.heap.size ≤ gb168)); have n4_ := Aside0.mk ((by rw [hg]; exact (below_size (qG GE167.out)) : w.heap.size ≤ gb168)); have n5_ := Aside0.mk ((by rw [hg]; exact Nat.ne_of_lt (blk_lt (g := gb167) (qK BK167.out)) : gb167 ≠ gb168)); have n6_ := Aside0.mk ((by rw [hg]; exact Nat.ne_of_gt (blk_lt (g := gb167) (qK BK167.out)) : gb168 ≠ gb167)); clear BK167; clear HB; have BK167 := n0_; have HB := n1_; have BK168 := n2_; have GW168 := n3_; have GE168 := n4_; have NB167_168 := n5_; have NB168_167 := n6_; clear n0_ n1_ n2_ n3_ n4_ n5_ n6_; clear hb hbox hg) | ((with_reducible refine gate_dst (N := 3) rfl ?_); refine box_event ?hg (N := 3) ?hd (cs := #[.string (⟨#[]⟩ : ByteArray), .string (⟨#[]⟩ : ByteArray)]) (t := 75) ?hr ?_; (case hd => rfl); (case hg => rfl); (case hr => first | (go_simp; done) | (go_simp; rfl)); intro gb169 hg w4 hbox hb; have n0_ := Aside0.mk (blk_below (g := gb167) (qK BK167.out) hb); have n1_ := Aside0.mk (blk_below (g := gb168) (qK BK168.out) hb); have n2_ := Aside0.mk (below_step (qH GE167.out GE168.out) hb); have n3_ := Aside0.mk (hbox); have n4_ := Aside0.mk ((by rw [hg]; exact (below_size (qH GE167.out GE168.out)) : w.heap.size ≤ gb169)); have n5_ := Aside0.mk ((by rw [hg]; exact (below_size (qH GE167.out GE168.out)) : w.heap.size ≤ gb169)); have n6_ := Aside0.mk ((by rw [hg]; exact Nat.ne_of_lt (blk_lt (g := gb167) (qK BK167.out)) : gb167 ≠ gb169)); have n7_ := Aside0.mk ((by rw [hg]; exact Nat.ne_of_gt (blk_lt (g := gb167) (qK BK167.out)) : gb169 ≠ gb167)); have n8_ := Aside0.mk ((by rw [hg]; exact Nat.ne_of_lt (blk_lt (g := gb168) (qK BK168.out)) : gb168 ≠ gb169)); have n9_ := Aside0.mk ((by rw [hg]; exact Nat.ne_of_gt (blk_lt (g := gb168) (qK BK168.out)) : gb169 ≠ gb168)); clear BK167; clear BK168; clear HB; have BK167 := n0_; have BK168 := n1_; have HB := n2_; have BK169 := n3_; have GW169 := n4_; have GE169 := n5_; have NB167_169 := n6_; have NB169_167 := n7_; have NB168_169 := n8_; have NB169_168 := n9_; clear n0_ n1_ n2_ n3_ n4_ n5_ n6_ n7_ n8_ n9_; clear hb hbox hg; have hnb5 := NB167_168.out; have hnc5 := NB168_167.out; have hnb6 := NB167_169.out; have hnc6 := NB169_167.out; have hcz7_0 : w4.cell? ⟨gb167, 0, none⟩ = some (.string a0_0) := (blk_cell BK167.out 0).trans rfl; have hcz7_1 : w4.cell? ⟨gb167, 1, none⟩ = some (.string a0_1) := (blk_cell BK167.out 1).trans rfl; have hfz7_0 := blk_frozen BK167.out 0; have hfz7_1 := blk_frozen BK167.out 1; have hnb8 := NB169_168.out; have hnc8 := NB168_169.out; have hcz9_0 : w4.cell? ⟨gb169, 0, none⟩ = some (.string (⟨#[]⟩ : ByteArray)) := (blk_cell BK169.out 0).trans rfl; have hcz9_1 : w4.cell? ⟨gb169, 1, none⟩ = some (.string (⟨#[]⟩ : ByteArray)) := (blk_cell BK169.out 1).trans rfl; have hfz9_0 := blk_frozen BK169.out 0; have hfz9_1 := blk_frozen BK169.out 1; have hcz10_0 : w4.cell? ⟨gb168, 0, none⟩ = some (.string (⟨#[]⟩ : ByteArray)) := (blk_cell BK168.out 0).trans rfl; have hcz10_1 : w4.cell? ⟨gb168, 1, none⟩ = some (.string (⟨#[]⟩ : ByteArray)) := (blk_cell BK168.out 1).trans rfl; have hfz10_0 := blk_frozen BK168.out 0; have hfz10_1 := blk_frozen BK168.out 1))
 refine bodyPost_ret (results_cell_row rfl _ _ gb168 75 #[.string a0_0, .string a0_1] (0, 0) _ rfl (by (with_reducible repeat (first | refine blk_drewN ?_ _ | refine blk_drew ?_ | refine blk_alloc ?_ _)); refine blk_put (cs := #[.string a0_0, .string (⟨#[]⟩ : ByteArray)]) ?_ 1 _ rfl; (with_reducible repeat (first | refine blk_drewN ?_ _ | refine blk_drew ?_ | refine blk_alloc ?_ _)); refine blk_put (cs := #[.string (⟨#[]⟩ : ByteArray), .string (⟨#[]⟩ : ByteArray)]) ?_ 0 _ rfl; (with_reducible repeat (first | refine blk_drewN ?_ _ | refine blk_drew ?_ | refine blk_alloc ?_ _)); refine blk_far ?_ NB168_169.out _; (with_reducible repeat (first | refine blk_drewN ?_ _ | refine blk_drew ?_ | refine blk_alloc ?_ _)); refine blk_far ?_ NB168_169.out _; (with_reducible repeat (first | refine blk_drewN ?_ _ | refine blk_drew ?_ | refine blk_alloc ?_ _)); exact BK168.out) Try.underlying75 rfl (by kernel_rfl)) rfl ?_
 exact ⟨by first | rfl | (simp [errW_none, errW_some] <;> rfl) | (simp [*, errW_none, errW_some] <;> rfl), by repeat (first | (with_reducible first | exact HB.out | apply below_alloc | apply pw_below_drewN | apply below_drew1 | refine below_set ?_ GE167.out | refine below_set ?_ GE168.out | refine below_set ?_ GE169.out) | exact HB.out)⟩

end Go.Proofs.Ytklinldidfdnjaa.PFnExactDrvOk
